/- The sanity check of chapter 21; the order of the own proposals decides. -/
import Derived.Test.YtiinlanpinanhaaVTe
set_option linter.unusedVariables false
set_option linter.unusedSimpArgs false
namespace Go.Proofs.Ytiinlanpinanhaa.V
open Go.RowKit
set_option maxHeartbeats 8000000
set_option maxRecDepth 100000
theorem awake_val : chooseR [(1, 1, [], [(1, 28, 0, ()), (4, 31, 0, ())], ())] [(1, 1, [], [(1, 28, 0, ()), (4, 1024, 0, ()), (4, 31, 0, ())], ())] = ((1, 1, [], [(1, 28, 0, ()), (4, 31, 0, ())], ()), 0) := by kernel_rfl
theorem awake_ok {x : PrT} {e : Int} (hx : (x, e) = chooseR [(1, 1, [], [(1, 28, 0, ()), (4, 31, 0, ())], ())] [(1, 1, [], [(1, 28, 0, ()), (4, 1024, 0, ()), (4, 31, 0, ())], ())]) : e = 0 ∧ (x.2.2.2.1.length : Int) = 2 ∧ (x.2.2.2.1.getD (Int.toNat 1) (0, 0, 0, ())).2.1 = 31 := by
  rw [awake_val] at hx
  simp only [Prod.mk.injEq] at hx
  obtain ⟨rfl, rfl⟩ := hx
  exact ⟨rfl, rfl, rfl⟩
theorem okP_lit {l : List PrT} (h : l.all (fun p => p.2.2.2.1.all fun t => decide (0 ≤ t.1)) = true) : okP l := by
  refine ⟨fun p hp => ⟨fun t ht => ?_⟩⟩
  have := List.all_eq_true.1 h p hp
  have := List.all_eq_true.1 this t ht
  simpa using this
def awnC_t : SpecT := lf0 25 (cseSp)
def awnC : Cx := ⟨tt, qt, bt, st, awnC_t, 0, 1000000000000000, fun _ => none, false, CxE.no⟩
theorem awnC_si {E : Env} (h : E.ok) : SpecsOk Try.prog E (CxE.no) awnC_t (fun _ => none) := ⟨(lf0_ok (cse_sp h)), noI_ok _ _ _⟩
theorem awnC_x {E : Env} (h : E.ok) : CxEOk Try.prog E (CxE.no) := CxE.no_ok _ _
theorem awnC_cx (E : Env) (h : E.ok) (h1 : E.lo = 0) (h2 : E.hi = 1000000000000000) : Cx.ok awnC Try.prog E := ⟨tt_ok, qt_ok, bt_ok, awnC_si h, h, h1, h2, mixed_ok, awnC_x h⟩
theorem awnC_from (lo hi : Nat) (E : Env) (h : E.ok) (h1 : E.lo = lo) (h2 : E.hi = hi) : Cx.ok (Cx.from awnC lo hi) Try.prog E := ⟨tt_ok, qt_ok, bt_ok, awnC_si h, h, h1, h2, mixed_ok, awnC_x h⟩
theorem awn_fn : hasFn Try.prog 23 := ⟨_, Try.func23, by rfl, by rfl⟩
abbrev awnSp : Spec := fnSpec [] [.bool] [] (fun _ => True) fun _ y => y.1 = true
theorem awn_sp {E : Env} (hE : E.ok) : SpecOk Try.prog E 23 awnSp := by
  refine spec_of_vc (C := awnC) awn_fn Try.func23 (by kernel_rfl) awnC_cx (fun x hl hx => ?_) hE
  obtain ⟨⟩ := x
  cbv
  (repeat' (first | ((with_reducible refine And.intro (fun h => ?_) (fun h => ?_)) <;> (first | with_reducible exact (tf h (by assumption)).elim | with_reducible exact (tf (by assumption) h).elim | cbv)) | ((with_reducible show JoinT (fun s K => vc _ (Code.region _ _ true) s K) _ _ _ _ _); (with_reducible apply JoinT.mg2); (focus (cbv; (repeat' (first | ((with_reducible refine And.intro (fun h => ?_) (fun h => ?_)) <;> (first | with_reducible exact (tf h (by assumption)).elim | with_reducible exact (tf (by assumption) h).elim | cbv)) | ((with_reducible first | refine Cb.mk ?_ | refine Lz.mk ?_ | refine JoinT.left ?_ | refine AllT.mk (fun x hx => ?_)); cbv) | ((with_reducible refine Ob.mk (fun _ => ?_) ?_); rotate_left 1) | (with_reducible first | refine Mg.mk (Exists.intro ?_ (And.intro ?_ ?_)) | rfl | refine Fin.mk ?_ | exact True.intro | refine And.intro ?_ ?_))); (all_goals (try (have du : Unit := (); have dv : Unit := (); first | exact Goes.self (Ex2.mk ⟨dv, du, trivial, trivial, rfl⟩) | exact Goes.self (Ex2.mk ⟨x, du, hx, trivial, rfl⟩) | (rename_i xa hxa; exact Goes.self (Ex2.mk ⟨xa, x, hxa, hx, rfl⟩))))); (all_goals (fail_if_success (with_reducible first | show Goes _ _ _ _ | show (∃ _, unr _ _ _ _ _ _))))))) | ((with_reducible first | refine Cb.mk ?_ | refine Lz.mk ?_ | refine JoinT.left ?_ | refine AllT.mk (fun x hx => ?_)); cbv) | ((with_reducible refine Ob.mk (fun _ => ?_) ?_); rotate_left 1) | (with_reducible first | refine Mg.mk (Exists.intro ?_ (And.intro ?_ ?_)) | rfl | refine Fin.mk ?_ | exact True.intro | refine And.intro ?_ ?_)))
  all_goals first | (with_reducible show (∃ _, unr _ _ _ _ _ _); skip) | (with_reducible show Goes _ _ _ _; skip) | (with_reducible show JoinT _ _ _ _ _ _; skip) | (first | ((try dsimp only [Shp.D, Shp.Ds, Shp.dflt] at *); simp only [vem, veq, ne_eq, cmpI, arI, dvI, shI, SV.den, obLt, elemAt, obApp, partL, obPart, lowD, highD, mxOk, convL_self, zerosB, List.length_replicate, vln] at *; (try dsimp only [Shp.D, Shp.Ds, Shp.dflt, Shp.dflts] at *); done) | ((try dsimp only [Shp.D, Shp.Ds, Shp.dflt] at *); simp only [vem, veq, ne_eq, cmpI, arI, dvI, shI, SV.den, obLt, elemAt, obApp, partL, obPart, lowD, highD, mxOk, convL_self, zerosB, List.length_replicate, vln] at *; (try dsimp only [Shp.D, Shp.Ds, Shp.dflt, Shp.dflts] at *); omega) | ((try dsimp only [Shp.D, Shp.Ds, Shp.dflt] at *); simp only [vem, veq, ne_eq, cmpI, arI, dvI, shI, SV.den, obLt, elemAt, obApp, partL, obPart, lowD, highD, mxOk, convL_self, zerosB, List.length_replicate, vln] at *; (try dsimp only [Shp.D, Shp.Ds, Shp.dflt, Shp.dflts] at *); exact (awake_ok hx.1).2.2) | ((try dsimp only [Shp.D, Shp.Ds, Shp.dflt] at *); simp only [vem, veq, ne_eq, cmpI, arI, dvI, shI, SV.den, obLt, elemAt, obApp, partL, obPart, lowD, highD, mxOk, convL_self, zerosB, List.length_replicate, vln] at *; (try dsimp only [Shp.D, Shp.Ds, Shp.dflt, Shp.dflts] at *); exact absurd (awake_ok hx.1).2.1 h) | ((try dsimp only [Shp.D, Shp.Ds, Shp.dflt] at *); simp only [vem, veq, ne_eq, cmpI, arI, dvI, shI, SV.den, obLt, elemAt, obApp, partL, obPart, lowD, highD, mxOk, convL_self, zerosB, List.length_replicate, vln] at *; (try dsimp only [Shp.D, Shp.Ds, Shp.dflt, Shp.dflts] at *); exact absurd (awake_ok hx.1).1 h) | ((try dsimp only [Shp.D, Shp.Ds, Shp.dflt] at *); simp only [vem, veq, ne_eq, cmpI, arI, dvI, shI, SV.den, obLt, elemAt, obApp, partL, obPart, lowD, highD, mxOk, convL_self, zerosB, List.length_replicate, vln] at *; (try dsimp only [Shp.D, Shp.Ds, Shp.dflt, Shp.dflts] at *); exact okP_lit rfl))
end Go.Proofs.Ytiinlanpinanhaa.V
