/- The law SelectorReads. -/
import Derived.Test.YtiinlanpinanhaaVJa
import Derived.Test.YtiinlanpinanhaaVSr
import Derived.Test.YtiinlanpinanhaaVCh
import Derived.Test.YtiinlanpinanhaaVL
set_option linter.unusedVariables false
set_option linter.unusedSimpArgs false
namespace Go.Proofs.Ytiinlanpinanhaa.V
open Go.RowKit
set_option maxHeartbeats 8000000
set_option maxRecDepth 100000
theorem buildF_len (l : List SelT) : (buildF l).1.length ≤ 1000 := by
  unfold buildF
  split
  · simp
  · split
    · simp
    · split
      · simp
      · have := selrsB_length l
        simp only [List.length_cons]
        omega
theorem fnSpec_post {P : Program} {E : Env} {f : FuncId} {az rs : List Shp} {ts : List TypeId} {pre : Shp.Ds az → Prop} {post post' : Shp.Ds az → Shp.Ds rs → Prop} (h : SpecOk P E f (fnSpec az rs ts pre post)) (hp : ∀ x y, post x y → post' x y) : SpecOk P E f (fnSpec az rs ts pre post') := by
  refine ⟨h.fn, fun lo hi id args s K h1 h2 hs => h.calls lo hi id args s K h1 h2 ?_⟩
  unfold fnSpec at hs ⊢
  cases hd : decArgs s.heap s.ents az args with
  | some d =>
    rw [hd] at hs
    refine obsK_mono ?_ hs
    rintro ⟨ho, hk⟩
    exact ⟨ho, ⟨fun y hy => hk.all y ⟨hp _ _ hy.1, hy.2⟩⟩⟩
  | none => rw [hd] at hs; exact hs
abbrev build2Sp : Spec := fnSpec [.sl selE] [.sl .byte, .int .i64] [5] (fun _ => True) fun x y => y.1 = (buildF x.1).1 ∧ y.2.1 = (buildF x.1).2 ∧ y.1.length ≤ 1000
theorem build2 {x : List SelT} {y : List UInt8 × Int × Unit} (h : (y.1, y.2.1) = buildF x) : y.1 = (buildF x).1 ∧ y.2.1 = (buildF x).2 ∧ y.1.length ≤ 1000 := by
  have e1 : y.1 = (buildF x).1 := congrArg Prod.fst h
  exact ⟨e1, congrArg Prod.snd h, by rw [e1]; exact buildF_len x⟩
theorem rbuild2_sp {E : Env} (hE : E.ok) : SpecOk Try.prog E 31 build2Sp := fnSpec_post (rbuild_sp hE) fun _ _ h => build2 h
abbrev parse2Sp : Spec := fnSpec [.sl .byte] [.sl selE, .int .i64] [30] (fun _ => True) fun x y => y.1 = (parseF x.1).1 ∧ y.2.1 = (parseF x.1).2
theorem sparse2_sp {E : Env} (hE : E.ok) : SpecOk Try.prog E 42 parse2Sp := fnSpec_post (sparse_sp hE) fun _ _ h => ⟨congrArg Prod.fst h, congrArg Prod.snd h⟩
theorem rparse2_sp {E : Env} (hE : E.ok) : SpecOk Try.prog E 43 parse2Sp := fnSpec_post (rparse_sp hE) fun _ _ h => ⟨congrArg Prod.fst h, congrArg Prod.snd h⟩
abbrev chgSp : Spec := drSpec 94 [.sl .byte] [.sl .byte] [.sh] (fun x => x.1.length ≤ 100000000) (fun x y => y.1.length ≤ x.1.length + 1)
abbrev selsSp : Spec := drSpec 94 [.int .i64] [.sl selE] [.own 30] (fun x => 1 ≤ x.1 ∧ x.1 ≤ 256) (fun x y => SelsG x.1 y.1)
def srC_t : SpecT := nd0 41 (nd0 28 (nd0 15 (lf0 14 (aw5Sp)) (lf0 15 (newSpec 94))) (nd0 31 (lf0 28 (selsSp)) (lf0 31 (build2Sp)))) (nd0 43 (nd0 42 (lf0 41 (chgSp)) (lf0 42 (parse2Sp))) (nd0 44 (lf0 43 (parse2Sp)) (lf0 44 (sameSp))))
def srC : Cx := ⟨tt, qt, bt, st, srC_t, 0, 1000000000000000⟩
theorem srC_cx (E : Env) (h : E.ok) (h1 : E.lo = 0) (h2 : E.hi = 1000000000000000) : Cx.ok srC Try.prog E := ⟨tt_ok, qt_ok, bt_ok, (nd0_ok (nd0_ok (nd0_ok (lf0_ok (aw5_sp h)) (lf0_ok (new_sp h))) (nd0_ok (lf0_ok (selrs_sp h)) (lf0_ok (rbuild2_sp h)))) (nd0_ok (nd0_ok (lf0_ok (chg_sp h)) (lf0_ok (sparse2_sp h))) (nd0_ok (lf0_ok (rparse2_sp h)) (lf0_ok (same_sp h))))), h, h1, h2, mixed_ok⟩
abbrev srAs : List Shp := [.sl .byte, .sl .byte]
theorem sr_vc (x : Shp.Ds srAs) : vcLaw srC Try.f9 srAs x := by
  obtain ⟨b, l, u⟩ := x
  cbv
  (repeat' (first | (((with_reducible refine And.intro (fun h => ?_) (fun h => ?_))) <;> (first | with_reducible exact (tf h (by assumption)).elim | with_reducible exact (tf (by assumption) h).elim | cbv)) | ((with_reducible refine Mg.mk (Exists.intro ?_ (And.intro ?_ ?_)))) | ((with_reducible refine Cb.mk ?_); cbv) | ((with_reducible refine Lz.mk ?_); cbv) | ((with_reducible refine JoinT.left ?_); cbv) | (with_reducible rfl) | ((with_reducible refine Ob.mk (fun _ => ?_) ?_); rotate_left 1) | ((with_reducible refine AllT.mk (fun x hx => ?_)); cbv) | (with_reducible refine Fin.mk ?_) | (with_reducible exact True.intro) | (with_reducible refine And.intro ?_ ?_)))
  all_goals first | (with_reducible show (∃ _, unr _ _ _ _ _ _); skip) | (with_reducible show Goes _ _ _ _; skip) | (with_reducible show JoinT _ _ _ _ _ _; skip) | (first | ((try dsimp only [Shp.D, Shp.Ds, Shp.dflt] at *); simp only [SV.den, SV.dens, den_c, den_x, den_t, den_ar, den_bt, den_dv, den_sh, den_cv, den_mx, den_mn, den_sel, bden_c, bden_x, bden_t, bden_cmp, bden_not, bden_and, bden_eqb, cmpI, arI, dvI, shI, decide_eq_true_eq, decide_eq_false_iff_not, beq_iff_eq, beq_eq_false_iff_ne, bne_iff_ne, bne_eq_false_iff_eq, ne_eq, Bool.and_eq_true, Bool.or_eq_true, Bool.and_eq_false_iff, Bool.or_eq_false_iff, Bool.not_eq_true, Int.ofNat_eq_natCast, IntKind.wrap_i64, ncast, obLt, elemAt, obApp, partL, obPart, lowD, highD, mxOk, convL_self, List.length_append, List.length_cons, List.length_nil] at *; (try dsimp only [Shp.D, Shp.Ds, Shp.dflt, Shp.dflts] at *); omega) | ((try dsimp only [Shp.D, Shp.Ds, Shp.dflt] at *); simp only [SV.den, SV.dens, den_c, den_x, den_t, den_ar, den_bt, den_dv, den_sh, den_cv, den_mx, den_mn, den_sel, bden_c, bden_x, bden_t, bden_cmp, bden_not, bden_and, bden_eqb, cmpI, arI, dvI, shI, decide_eq_true_eq, decide_eq_false_iff_not, beq_iff_eq, beq_eq_false_iff_ne, bne_iff_ne, bne_eq_false_iff_eq, ne_eq, Bool.and_eq_true, Bool.or_eq_true, Bool.and_eq_false_iff, Bool.or_eq_false_iff, Bool.not_eq_true, Int.ofNat_eq_natCast, IntKind.wrap_i64, ncast, obLt, elemAt, obApp, partL, obPart, lowD, highD, mxOk, convL_self, List.length_append, List.length_cons, List.length_nil] at *; (try dsimp only [Shp.D, Shp.Ds, Shp.dflt, Shp.dflts] at *); simp_all; done) | ((try dsimp only [Shp.D, Shp.Ds, Shp.dflt] at *); simp only [SV.den, SV.dens, den_c, den_x, den_t, den_ar, den_bt, den_dv, den_sh, den_cv, den_mx, den_mn, den_sel, bden_c, bden_x, bden_t, bden_cmp, bden_not, bden_and, bden_eqb, cmpI, arI, dvI, shI, decide_eq_true_eq, decide_eq_false_iff_not, beq_iff_eq, beq_eq_false_iff_ne, bne_iff_ne, bne_eq_false_iff_eq, ne_eq, Bool.and_eq_true, Bool.or_eq_true, Bool.and_eq_false_iff, Bool.or_eq_false_iff, Bool.not_eq_true, Int.ofNat_eq_natCast, IntKind.wrap_i64, ncast, obLt, elemAt, obApp, partL, obPart, lowD, highD, mxOk, convL_self, List.length_append, List.length_cons, List.length_nil] at *; (try dsimp only [Shp.D, Shp.Ds, Shp.dflt, Shp.dflts] at *); have g := (‹(_ ∧ _ ∧ _ ≤ 1000) ∧ _›).1.2.2; first | omega | (have g2 := (‹_ ≤ _ + 1 ∧ _›).1; omega) | (have g2 := hx.1; omega)))
  refine ⟨5, ?_⟩
  cbv
  (repeat' (first | (((with_reducible refine And.intro (fun h => ?_) (fun h => ?_))) <;> (first | with_reducible exact (tf h (by assumption)).elim | with_reducible exact (tf (by assumption) h).elim | cbv)) | ((with_reducible refine Mg.mk (Exists.intro ?_ (And.intro ?_ ?_)))) | ((with_reducible refine Cb.mk ?_); cbv) | ((with_reducible refine Lz.mk ?_); cbv) | ((with_reducible refine JoinT.left ?_); cbv) | (with_reducible rfl) | ((with_reducible refine Ob.mk (fun _ => ?_) ?_); rotate_left 1) | ((with_reducible refine AllT.mk (fun x hx => ?_)); cbv) | (with_reducible refine Fin.mk ?_) | (with_reducible exact True.intro) | (with_reducible refine And.intro ?_ ?_)))
  all_goals first | (with_reducible show (∃ _, unr _ _ _ _ _ _); skip) | (with_reducible show Goes _ _ _ _; skip) | (with_reducible show JoinT _ _ _ _ _ _; skip) | (first | ((try dsimp only [Shp.D, Shp.Ds, Shp.dflt] at *); simp only [SV.den, SV.dens, den_c, den_x, den_t, den_ar, den_bt, den_dv, den_sh, den_cv, den_mx, den_mn, den_sel, bden_c, bden_x, bden_t, bden_cmp, bden_not, bden_and, bden_eqb, cmpI, arI, dvI, shI, decide_eq_true_eq, decide_eq_false_iff_not, beq_iff_eq, beq_eq_false_iff_ne, bne_iff_ne, bne_eq_false_iff_eq, ne_eq, Bool.and_eq_true, Bool.or_eq_true, Bool.and_eq_false_iff, Bool.or_eq_false_iff, Bool.not_eq_true, Int.ofNat_eq_natCast, IntKind.wrap_i64, ncast, obLt, elemAt, obApp, partL, obPart, lowD, highD, mxOk, convL_self, List.length_append, List.length_cons, List.length_nil] at *; (try dsimp only [Shp.D, Shp.Ds, Shp.dflt, Shp.dflts] at *); done) | ((try dsimp only [Shp.D, Shp.Ds, Shp.dflt] at *); simp only [SV.den, SV.dens, den_c, den_x, den_t, den_ar, den_bt, den_dv, den_sh, den_cv, den_mx, den_mn, den_sel, bden_c, bden_x, bden_t, bden_cmp, bden_not, bden_and, bden_eqb, cmpI, arI, dvI, shI, decide_eq_true_eq, decide_eq_false_iff_not, beq_iff_eq, beq_eq_false_iff_ne, bne_iff_ne, bne_eq_false_iff_eq, ne_eq, Bool.and_eq_true, Bool.or_eq_true, Bool.and_eq_false_iff, Bool.or_eq_false_iff, Bool.not_eq_true, Int.ofNat_eq_natCast, IntKind.wrap_i64, ncast, obLt, elemAt, obApp, partL, obPart, lowD, highD, mxOk, convL_self, List.length_append, List.length_cons, List.length_nil] at *; (try dsimp only [Shp.D, Shp.Ds, Shp.dflt, Shp.dflts] at *); omega) | ((try dsimp only [Shp.D, Shp.Ds, Shp.dflt] at *); simp only [SV.den, SV.dens, den_c, den_x, den_t, den_ar, den_bt, den_dv, den_sh, den_cv, den_mx, den_mn, den_sel, bden_c, bden_x, bden_t, bden_cmp, bden_not, bden_and, bden_eqb, cmpI, arI, dvI, shI, decide_eq_true_eq, decide_eq_false_iff_not, beq_iff_eq, beq_eq_false_iff_ne, bne_iff_ne, bne_eq_false_iff_eq, ne_eq, Bool.and_eq_true, Bool.or_eq_true, Bool.and_eq_false_iff, Bool.or_eq_false_iff, Bool.not_eq_true, Int.ofNat_eq_natCast, IntKind.wrap_i64, ncast, obLt, elemAt, obApp, partL, obPart, lowD, highD, mxOk, convL_self, List.length_append, List.length_cons, List.length_nil] at *; (try dsimp only [Shp.D, Shp.Ds, Shp.dflt, Shp.dflts] at *); simp_all; done))
theorem law_SelectorReads (x : Shp.Ds srAs) (w : World) (vals : List Value) (hr : ArgsRep w srAs x vals) (_ : inrs srAs x) : Calls Try.prog 9 vals.toArray w fun e w' => e = .returned (.bool true) ∧ Below w.heap.size w w' :=
  law_of_vc Try.func9 (by kernel_rfl) srC_cx hr (sr_vc x)
end Go.Proofs.Ytiinlanpinanhaa.V
