/- Contracts: selectors are written. -/
import Derived.Test.YtiinlanpinanhaaVW
set_option linter.unusedVariables false
set_option linter.unusedSimpArgs false
namespace Go.Proofs.Ytiinlanpinanhaa.V
open Go.RowKit
set_option maxHeartbeats 8000000
set_option maxRecDepth 100000
theorem shape_fn : hasFn Try.prog 70 := ⟨_, Try.func70, by rfl, by rfl⟩
theorem shape_sp {E : Env} (hE : E.ok) : SpecOk Try.prog E 70 (fnSpec [.int .i64] [.int .i64, .int .i64, .int .i64] [] (fun _ => True) fun x y => (y.1, y.2.1, y.2.2.1) = if x.1 = 4 then (7, 16, 4) else (8, 40, 16)) := by
  refine spec_of_vc (C := noC) shape_fn Try.func70 (by kernel_rfl) noC_cx (fun x hl hx => ?_) hE
  obtain ⟨f, u⟩ := x
  cbv
  (repeat' (first | (((with_reducible refine And.intro (fun h => ?_) (fun h => ?_))) <;> (first | with_reducible exact (tf h (by assumption)).elim | with_reducible exact (tf (by assumption) h).elim | cbv)) | ((with_reducible refine Mg.mk (Exists.intro ?_ (And.intro ?_ ?_)))) | ((with_reducible refine Cb.mk ?_); cbv) | ((with_reducible refine Lz.mk ?_); cbv) | ((with_reducible refine JoinT.left ?_); cbv) | (with_reducible rfl) | ((with_reducible refine Ob.mk (fun _ => ?_) ?_); rotate_left 1) | ((with_reducible refine AllT.mk (fun x hx => ?_)); cbv) | (with_reducible refine Fin.mk ?_) | (with_reducible exact True.intro) | (with_reducible refine And.intro ?_ ?_)))
  all_goals ((try dsimp only [Shp.D, Shp.Ds, Shp.dflt] at *); simp only [SV.den, SV.dens, den_c, den_x, den_t, den_ar, den_bt, den_dv, den_sh, den_cv, den_mx, den_mn, den_sel, bden_c, bden_x, bden_t, bden_cmp, bden_not, bden_and, bden_eqb, cmpI, arI, dvI, shI, decide_eq_true_eq, decide_eq_false_iff_not, beq_iff_eq, beq_eq_false_iff_ne, bne_iff_ne, bne_eq_false_iff_eq, ne_eq, Bool.and_eq_true, Bool.or_eq_true, Bool.and_eq_false_iff, Bool.or_eq_false_iff, Bool.not_eq_true, Int.ofNat_eq_natCast, IntKind.wrap_i64, ncast, obLt, elemAt, obApp, partL, obPart, lowD, highD, mxOk, convL_self, List.length_append, List.length_cons, List.length_nil] at *; (try dsimp only [Shp.D, Shp.Ds, Shp.dflt, Shp.dflts] at *); simp [*])
theorem rsize_fn : hasFn Try.prog 74 := ⟨_, Try.func74, by rfl, by rfl⟩
theorem rsize_sp {E : Env} (hE : E.ok) : SpecOk Try.prog E 74 (fnSpec [.int .i64] [.int .i64] [] (fun _ => True) fun x y => y.1 = if x.1 = 4 then 4 else 16) := by
  refine spec_of_vc (C := noC) rsize_fn Try.func74 (by kernel_rfl) noC_cx (fun x hl hx => ?_) hE
  obtain ⟨f, u⟩ := x
  cbv
  (repeat' (first | (((with_reducible refine And.intro (fun h => ?_) (fun h => ?_))) <;> (first | with_reducible exact (tf h (by assumption)).elim | with_reducible exact (tf (by assumption) h).elim | cbv)) | ((with_reducible refine Mg.mk (Exists.intro ?_ (And.intro ?_ ?_)))) | ((with_reducible refine Cb.mk ?_); cbv) | ((with_reducible refine Lz.mk ?_); cbv) | ((with_reducible refine JoinT.left ?_); cbv) | (with_reducible rfl) | ((with_reducible refine Ob.mk (fun _ => ?_) ?_); rotate_left 1) | ((with_reducible refine AllT.mk (fun x hx => ?_)); cbv) | (with_reducible refine Fin.mk ?_) | (with_reducible exact True.intro) | (with_reducible refine And.intro ?_ ?_)))
  all_goals ((try dsimp only [Shp.D, Shp.Ds, Shp.dflt] at *); simp only [SV.den, SV.dens, den_c, den_x, den_t, den_ar, den_bt, den_dv, den_sh, den_cv, den_mx, den_mn, den_sel, bden_c, bden_x, bden_t, bden_cmp, bden_not, bden_and, bden_eqb, cmpI, arI, dvI, shI, decide_eq_true_eq, decide_eq_false_iff_not, beq_iff_eq, beq_eq_false_iff_ne, bne_iff_ne, bne_eq_false_iff_eq, ne_eq, Bool.and_eq_true, Bool.or_eq_true, Bool.and_eq_false_iff, Bool.or_eq_false_iff, Bool.not_eq_true, Int.ofNat_eq_natCast, IntKind.wrap_i64, ncast, obLt, elemAt, obApp, partL, obPart, lowD, highD, mxOk, convL_self, List.length_append, List.length_cons, List.length_nil] at *; (try dsimp only [Shp.D, Shp.Ds, Shp.dflt, Shp.dflts] at *); simp [*])
/-- The bytes of an address. -/
def adrB (a : Adr) : List UInt8 := if a.fam = 4 then putB a.lo 4 else putB a.hi 8 ++ putB a.lo 8
abbrev paPre : Shp.Ds [.sl .byte, adrE] → Prop := fun x => x.1.length ≤ 999999000
theorem adrB_length (a : Adr) : (adrB a).length ≤ 16 := by
  unfold adrB
  split <;> simp [putB_length]
abbrev paPost : Shp.Ds [.sl .byte, adrE] → Shp.Ds [.sl .byte] → Prop := fun x y => y.1 = x.1 ++ adrB (toAdr x.2.1) ∧ y.1.length ≤ x.1.length + 16
def paC_t : SpecT := lf0 71 (fnSpecT putAs [some 5, none, none] [.sl .byte] [.own 5] [] putPre putPost)
def paC : Cx := ⟨tt, qt, bt, st, paC_t, 0, 1000000000000000, fun _ => none, false⟩
theorem paC_si {E : Env} (h : E.ok) : SpecsOk Try.prog E paC_t (fun _ => none) := ⟨(lf0_ok (wput_sp h)), noI_ok _ _⟩
theorem paC_cx (E : Env) (h : E.ok) (h1 : E.lo = 0) (h2 : E.hi = 1000000000000000) : Cx.ok paC Try.prog E := ⟨tt_ok, qt_ok, bt_ok, paC_si h, h, h1, h2, mixed_ok⟩
theorem paC_from (lo hi : Nat) (E : Env) (h : E.ok) (h1 : E.lo = lo) (h2 : E.hi = hi) : Cx.ok (Cx.from paC lo hi) Try.prog E := ⟨tt_ok, qt_ok, bt_ok, paC_si h, h, h1, h2, mixed_ok⟩
theorem pa_fn : hasFn Try.prog 72 := ⟨_, Try.func72, by rfl, by rfl⟩
theorem pa_sp {E : Env} (hE : E.ok) : SpecOk Try.prog E 72 (fnSpecT [.sl .byte, adrE] [some 5, none] [.sl .byte] [.own 5] [] paPre paPost) := by
  refine spec_of_vcT (C := paC) pa_fn Try.func72 (by kernel_rfl) paC_cx (fun x hl hx => ?_) hE
  obtain ⟨b, ⟨f, h, l, u⟩, u'⟩ := x
  have h1 := hx
  dsimp only [Shp.D, Shp.Ds] at h1
  cbv
  (repeat' (first | (((with_reducible refine And.intro (fun h => ?_) (fun h => ?_))) <;> (first | with_reducible exact (tf h (by assumption)).elim | with_reducible exact (tf (by assumption) h).elim | cbv)) | ((with_reducible refine Mg.mk (Exists.intro ?_ (And.intro ?_ ?_)))) | ((with_reducible refine Cb.mk ?_); cbv) | ((with_reducible refine Lz.mk ?_); cbv) | ((with_reducible refine JoinT.left ?_); cbv) | (with_reducible rfl) | ((with_reducible refine Ob.mk (fun _ => ?_) ?_); rotate_left 1) | ((with_reducible refine AllT.mk (fun x hx => ?_)); cbv) | (with_reducible refine Fin.mk ?_) | (with_reducible exact True.intro) | (with_reducible refine And.intro ?_ ?_)))
  all_goals (try dsimp only [Shp.D, Shp.Ds, Shp.dflt] at *); simp only [SV.den, SV.dens, den_c, den_x, den_t, den_ar, den_bt, den_dv, den_sh, den_cv, den_mx, den_mn, den_sel, bden_c, bden_x, bden_t, bden_cmp, bden_not, bden_and, bden_eqb, cmpI, arI, dvI, shI, decide_eq_true_eq, decide_eq_false_iff_not, beq_iff_eq, beq_eq_false_iff_ne, bne_iff_ne, bne_eq_false_iff_eq, ne_eq, Bool.and_eq_true, Bool.or_eq_true, Bool.and_eq_false_iff, Bool.or_eq_false_iff, Bool.not_eq_true, Int.ofNat_eq_natCast, IntKind.wrap_i64, ncast, obLt, elemAt, obApp, partL, obPart, lowD, highD, mxOk, convL_self, List.length_append, List.length_cons, List.length_nil] at *; (try dsimp only [Shp.D, Shp.Ds, Shp.dflt, Shp.dflts] at *)
  all_goals first
    | omega
    | (have e := hx.1.1; simp [putF] at e; rw [e, adrB]; simp_all [toAdr, putF]; done)
    | (have e := hx.1.2; omega)
def rpaC_t : SpecT := lf0 73 (fnSpec putAs [.sl .byte] [5] putPre putPost)
def rpaC : Cx := ⟨tt, qt, bt, st, rpaC_t, 0, 1000000000000000, fun _ => none, false⟩
theorem rpaC_si {E : Env} (h : E.ok) : SpecsOk Try.prog E rpaC_t (fun _ => none) := ⟨(lf0_ok (rput_sp h)), noI_ok _ _⟩
theorem rpaC_cx (E : Env) (h : E.ok) (h1 : E.lo = 0) (h2 : E.hi = 1000000000000000) : Cx.ok rpaC Try.prog E := ⟨tt_ok, qt_ok, bt_ok, rpaC_si h, h, h1, h2, mixed_ok⟩
theorem rpaC_from (lo hi : Nat) (E : Env) (h : E.ok) (h1 : E.lo = lo) (h2 : E.hi = hi) : Cx.ok (Cx.from rpaC lo hi) Try.prog E := ⟨tt_ok, qt_ok, bt_ok, rpaC_si h, h, h1, h2, mixed_ok⟩
theorem rpa_fn : hasFn Try.prog 75 := ⟨_, Try.func75, by rfl, by rfl⟩
theorem rpa_sp {E : Env} (hE : E.ok) : SpecOk Try.prog E 75 (fnSpec [.sl .byte, adrE] [.sl .byte] [5] paPre paPost) := by
  refine spec_of_vc (C := rpaC) rpa_fn Try.func75 (by kernel_rfl) rpaC_cx (fun x hl hx => ?_) hE
  obtain ⟨b, ⟨f, h, l, u⟩, u'⟩ := x
  have h1 := hx
  dsimp only [Shp.D, Shp.Ds] at h1
  cbv
  (repeat' (first | (((with_reducible refine And.intro (fun h => ?_) (fun h => ?_))) <;> (first | with_reducible exact (tf h (by assumption)).elim | with_reducible exact (tf (by assumption) h).elim | cbv)) | ((with_reducible refine Mg.mk (Exists.intro ?_ (And.intro ?_ ?_)))) | ((with_reducible refine Cb.mk ?_); cbv) | ((with_reducible refine Lz.mk ?_); cbv) | ((with_reducible refine JoinT.left ?_); cbv) | (with_reducible rfl) | ((with_reducible refine Ob.mk (fun _ => ?_) ?_); rotate_left 1) | ((with_reducible refine AllT.mk (fun x hx => ?_)); cbv) | (with_reducible refine Fin.mk ?_) | (with_reducible exact True.intro) | (with_reducible refine And.intro ?_ ?_)))
  all_goals (try dsimp only [Shp.D, Shp.Ds, Shp.dflt] at *); simp only [SV.den, SV.dens, den_c, den_x, den_t, den_ar, den_bt, den_dv, den_sh, den_cv, den_mx, den_mn, den_sel, bden_c, bden_x, bden_t, bden_cmp, bden_not, bden_and, bden_eqb, cmpI, arI, dvI, shI, decide_eq_true_eq, decide_eq_false_iff_not, beq_iff_eq, beq_eq_false_iff_ne, bne_iff_ne, bne_eq_false_iff_eq, ne_eq, Bool.and_eq_true, Bool.or_eq_true, Bool.and_eq_false_iff, Bool.or_eq_false_iff, Bool.not_eq_true, Int.ofNat_eq_natCast, IntKind.wrap_i64, ncast, obLt, elemAt, obApp, partL, obPart, lowD, highD, mxOk, convL_self, List.length_append, List.length_cons, List.length_nil] at *; (try dsimp only [Shp.D, Shp.Ds, Shp.dflt, Shp.dflts] at *)
  all_goals first
    | omega
    | (have e := hx.1.1; simp [putF] at e; rw [e, adrB]; simp_all [toAdr, putF]; done)
    | (have e := hx.1.2; omega)
end Go.Proofs.Ytiinlanpinanhaa.V
