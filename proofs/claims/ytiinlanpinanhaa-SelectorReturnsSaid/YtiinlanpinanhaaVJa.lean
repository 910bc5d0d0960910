/- Contracts: the sanity check of law05. -/
import Derived.Test.YtiinlanpinanhaaVS
set_option linter.unusedVariables false
set_option linter.unusedSimpArgs false
namespace Go.Proofs.Ytiinlanpinanhaa.V
open Go.RowKit
set_option maxHeartbeats 8000000
set_option maxRecDepth 100000
def aw5C_t : SpecT := lf0 17 (meetSp)
def aw5C : Cx := ⟨tt, qt, bt, st, aw5C_t, 0, 1000000000000000⟩
theorem aw5C_cx (E : Env) (h : E.ok) (h1 : E.lo = 0) (h2 : E.hi = 1000000000000000) : Cx.ok aw5C Try.prog E := ⟨tt_ok, qt_ok, bt_ok, (lf0_ok (smeet_sp h)), h, h1, h2, mixed_ok⟩
theorem aw5_fn : hasFn Try.prog 14 := ⟨_, Try.func14, by rfl, by rfl⟩
theorem aw5_sp {E : Env} (hE : E.ok) : SpecOk Try.prog E 14 (fnSpec [] [.bool] [] (fun _ => True) (fun _ y => y.1 = true)) := by
  refine spec_of_vc (C := aw5C) aw5_fn Try.func14 (by kernel_rfl) aw5C_cx (fun x hl hx => ?_) hE
  obtain ⟨⟩ := x
  cbv
  (repeat' (first | (((with_reducible refine And.intro (fun h => ?_) (fun h => ?_))) <;> (first | with_reducible exact (tf h (by assumption)).elim | with_reducible exact (tf (by assumption) h).elim | cbv)) | ((with_reducible refine Mg.mk (Exists.intro ?_ (And.intro ?_ ?_)))) | ((with_reducible refine Cb.mk ?_); cbv) | ((with_reducible refine Lz.mk ?_); cbv) | ((with_reducible refine JoinT.left ?_); cbv) | (with_reducible rfl) | ((with_reducible refine Ob.mk (fun _ => ?_) ?_); rotate_left 1) | ((with_reducible refine AllT.mk (fun x hx => ?_)); cbv) | (with_reducible refine Fin.mk ?_) | (with_reducible exact True.intro) | (with_reducible refine And.intro ?_ ?_)))
  all_goals
    (try dsimp only [Shp.D, Shp.Ds, Shp.dflt] at *); simp only [SV.den, SV.dens, den_c, den_x, den_t, den_ar, den_bt, den_dv, den_sh, den_cv, den_mx, den_mn, den_sel, bden_c, bden_x, bden_t, bden_cmp, bden_not, bden_and, bden_eqb, cmpI, arI, dvI, shI, decide_eq_true_eq, decide_eq_false_iff_not, beq_iff_eq, beq_eq_false_iff_ne, bne_iff_ne, bne_eq_false_iff_eq, ne_eq, Bool.and_eq_true, Bool.or_eq_true, Bool.and_eq_false_iff, Bool.or_eq_false_iff, Bool.not_eq_true, Int.ofNat_eq_natCast, IntKind.wrap_i64, ncast, obLt, elemAt, obApp, partL, obPart, lowD, highD, mxOk, convL_self, List.length_append, List.length_cons, List.length_nil] at *; (try dsimp only [Shp.D, Shp.Ds, Shp.dflt, Shp.dflts] at *)
    obtain ⟨⟨p, a, c, ⟨f, h, l, u⟩, ⟨f', h', l', u'⟩, u1⟩, b, u2⟩ := x
    simp [meet, toSel, toAdr, less, opq, alls, amax, amin, show max (0 : Int) 80 = 80 from rfl, show min (65535 : Int) 90 = 90 from rfl] at hx
    first | (simp_all; done) | (simp_all; omega)
abbrev aw5Sp : Spec := fnSpec [] [.bool] [] (fun _ => True) (fun _ y => y.1 = true)
end Go.Proofs.Ytiinlanpinanhaa.V
