/- Curve: the law CurveAgrees. -/
import Derived.Test.YtihnagafldpbnaaVUp
import Derived.Test.YtihnagafldpbnaaVEi
import Derived.Test.YtihnagafldpbnaaVL
set_option linter.unusedVariables false
set_option linter.unusedSimpArgs false
namespace Go.Proofs.Ytihnagafldpbnaa.V
open Go.RowKit
set_option maxHeartbeats 80000000
set_option maxRecDepth 100000
theorem agr_go {a b : List UInt8 × PUnit} {x y u w : List UInt8 × Int × PUnit} {p q r s t v : Prop} (h4 : (w.1, w.2.1) = mulF b.1 x.1 ∧ p) (h1 : (x.1, x.2.1) = mulF a.1 pt9 ∧ q) (h3 : (u.1, u.2.1) = mulF a.1 y.1 ∧ r) (h2 : (y.1, y.2.1) = mulF b.1 pt9 ∧ s) (ha : (a.1.length : Int) = max 0 32 ∧ t) (hb : (b.1.length : Int) = max 0 32 ∧ v) :
    x.2.1 = 0 ∧ y.2.1 = 0 ∧ u.2.1 = 0 ∧ w.2.1 = 0 ∧ u.1 = w.1 ∧ (u.1.length : Int) = 32 := by
  have ka : a.1.length = 32 := by have := ha.1; omega
  have kb : b.1.length = 32 := by have := hb.1; omega
  obtain ⟨k1, k2, k3, k4, k5, k6⟩ := agreeF ka kb h1.1 h2.1 h3.1 h4.1
  exact ⟨k1, k2, k3, k4, k5, by omega⟩
def agrC_t : SpecT := nd0 10 (nd0 8 (lf0 7 (aw14Sp)) (nd0 9 (lf0 8 (newSpec 39)) (lf0 9 (drSpec 39 [.int .i64] [.sl .byte] [.own 5] (fun x => x.1 ≤ 1048576) (fun x y => (y.1.length : Int) = max 0 x.1))))) (nd0 12 (lf0 10 (mulSp14)) (nd0 15 (lf0 12 (eqSp)) (lf0 15 (pubSp))))
def agrC : Cx := ⟨tt, qt, bt, st, agrC_t, 0, 1000000000000000, fun _ => none, false, CxE.no, []⟩
theorem agrC_si {E : Env} (h : E.ok) : SpecsOk Try.prog E (CxE.no) agrC_t (fun _ => none) := ⟨(nd0_ok (nd0_ok (lf0_ok (.inl (aw14_sp h))) (nd0_ok (lf0_ok (.inl (new_sp h))) (lf0_ok (.inl (bytes_sp h))))) (nd0_ok (lf0_ok (.inl (mty_sp h))) (nd0_ok (lf0_ok (.inl (reql_sp h))) (lf0_ok (.inl (pub_sp h)))))), noI_ok _ _ _⟩
theorem agrC_x {E : Env} (h : E.ok) : CxEOk Try.prog E (CxE.no) := CxE.no_ok _ _
theorem agrC_cx (E : Env) (h : E.ok) (h1 : E.lo = 0) (h2 : E.hi = 1000000000000000) : Cx.ok agrC Try.prog E := ⟨tt_ok, qt_ok, bt_ok, agrC_si h, h, h1, h2, mixed_ok, agrC_x h⟩
theorem agrC_from (lo hi : Nat) (E : Env) (h : E.ok) (h1 : E.lo = lo) (h2 : E.hi = hi) : Cx.ok (Cx.from agrC lo hi) Try.prog E := ⟨tt_ok, qt_ok, bt_ok, agrC_si h, h, h1, h2, mixed_ok, agrC_x h⟩
abbrev agrAs : List Shp := [.sl .byte]
theorem agr_vc (x : Shp.Ds agrAs) (hi : inrs agrAs x) : vcLaw agrC Try.f4 agrAs x := by
  obtain ⟨codes, u⟩ := x
  clear hi
  cbv
  (repeat' (first | ((with_reducible refine And.intro (fun h => ?_) (fun h => ?_)) <;> (first | with_reducible exact (tf h (by assumption)).elim | with_reducible exact (tf (by assumption) h).elim | cbv)) | ((with_reducible show JoinT (fun s K => vc _ (Code.region _ _ true) s K) _ _ _ _ _ _); (with_reducible apply JoinT.mg2); (focus (cbv; (repeat' (first | ((with_reducible refine And.intro (fun h => ?_) (fun h => ?_)) <;> (first | with_reducible exact (tf h (by assumption)).elim | with_reducible exact (tf (by assumption) h).elim | cbv)) | ((with_reducible first | refine Cb.mk ?_ | refine Lz.mk ?_ | refine JoinT.left ?_ | refine AllT.mk (fun x hx => ?_)); cbv) | ((with_reducible refine Ob.mk (fun _ => ?_) ?_); rotate_left 1) | (with_reducible first | refine Mg.mk (Exists.intro ?_ (And.intro ?_ ?_)) | rfl | refine Fin.mk ?_ | exact True.intro | refine And.intro ?_ ?_))); (all_goals (try (have du : Unit := (); have dv : Unit := (); first | exact Goes.self (Ex2.mk ⟨dv, du, trivial, trivial, rfl⟩) | exact Goes.self (Ex2.mk ⟨x, du, hx, trivial, rfl⟩) | (rename_i xa hxa; exact Goes.self (Ex2.mk ⟨xa, x, hxa, hx, rfl⟩))))); (all_goals (fail_if_success (with_reducible first | show Goes _ _ _ _ | show (∃ _, unr _ _ _ _ _ _))))))) | ((with_reducible first | refine Cb.mk ?_ | refine Lz.mk ?_ | refine JoinT.left ?_ | refine AllT.mk (fun x hx => ?_)); cbv) | ((with_reducible refine Ob.mk (fun _ => ?_) ?_); rotate_left 1) | (with_reducible first | refine Mg.mk (Exists.intro ?_ (And.intro ?_ ?_)) | rfl | refine Fin.mk ?_ | exact True.intro | refine And.intro ?_ ?_)))
  all_goals first | (with_reducible show (∃ _, unr _ _ _ _ _ _); skip) | (with_reducible show UnrI _ _ _ _ _; skip) | (with_reducible show Goes _ _ _ _; skip) | (with_reducible show JoinT _ _ _ _ _ _ _; skip) | (first | ((try dsimp only [Shp.D, Shp.Ds, Shp.dflt] at *); simp only [vem, veq, ne_eq, cmpI, arI, dvI, shI, SV.den, obLt, elemAt, obApp, partL, obPart, lowD, highD, mxOk, convL_self, zerosB, List.length_replicate, vln] at *; (try dsimp only [Shp.D, Shp.Ds, Shp.dflt, Shp.dflts] at *); done) | ((try dsimp only [Shp.D, Shp.Ds, Shp.dflt] at *); simp only [vem, veq, ne_eq, cmpI, arI, dvI, shI, SV.den, obLt, elemAt, obApp, partL, obPart, lowD, highD, mxOk, convL_self, zerosB, List.length_replicate, vln] at *; (try dsimp only [Shp.D, Shp.Ds, Shp.dflt, Shp.dflts] at *); omega) | (try ((try dsimp only [Shp.D, Shp.Ds, Shp.dflt] at *); simp only [vem, veq, ne_eq, cmpI, arI, dvI, shI, SV.den, obLt, elemAt, obApp, partL, obPart, lowD, highD, mxOk, convL_self, zerosB, List.length_replicate, vln] at *; (try dsimp only [Shp.D, Shp.Ds, Shp.dflt, Shp.dflts] at *))))
  all_goals first
    | (simp_all; done)
    | (obtain ⟨k1, k2, k3, k4, k5, k6⟩ := agr_go (by assumption) (by assumption) (by assumption) (by assumption) (by assumption) (by assumption)
       first
         | exact k6
         | contradiction
         | (simp_all; done))
theorem law_CurveAgrees (x : Shp.Ds agrAs) (w : World) (vals : List Value) (hr : ArgsRep w agrAs x vals) (hi : inrs agrAs x) : Calls Try.prog 4 vals.toArray w fun e w' => e = .returned (.bool true) ∧ Below w.heap.size w w' :=
  law_of_vc Try.func4 (by kernel_rfl) agrC_cx hr (agr_vc x hi)
end Go.Proofs.Ytihnagafldpbnaa.V
