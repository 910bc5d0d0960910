/- Curve: awake; the law CurveIgnores. -/
import Derived.Test.YtihnagafldpbnaaVUp
import Derived.Test.YtihnagafldpbnaaVUw
import Derived.Test.YtihnagafldpbnaaVC
import Derived.Test.YtihnagafldpbnaaVA
import Derived.Test.YtihnagafldpbnaaVL
set_option linter.unusedVariables false
set_option linter.unusedSimpArgs false
namespace Go.Proofs.Ytihnagafldpbnaa.V
open Go.RowKit
set_option maxHeartbeats 80000000
set_option maxRecDepth 100000
def z32 : List UInt8 := List.replicate 32 0
def s77 : List UInt8 := (List.replicate 32 0).set 5 77
theorem mul_77 : mulF s77 z32 = (z32, 0) := by decide +kernel
theorem sh_77 : sharF s77 z32 = ([], 13) := by decide +kernel
theorem pub_77 : (mulF s77 pt9).2 = 0 ∧ (mulF s77 pt9).1.length = 32 ∧ (mulF s77 pt9).1 ≠ z32 := by decide +kernel
theorem pub_78 : ∃ l, mulF s77 pt9 = (l, 0) ∧ l.length = 32 ∧ l ≠ z32 := ⟨_, Prod.ext rfl pub_77.1, pub_77.2.1, pub_77.2.2⟩
theorem e32 : List.replicate (Int.toNat 32) (0 : UInt8) = z32 := rfl
theorem e77 : (setAt z32 5 0 fun _ => toB 77) = s77 := by decide +kernel
def a14C_t : SpecT := nd0 13 (nd0 12 (lf0 10 (mulSp14)) (lf0 12 (eqSp))) (nd0 15 (lf0 13 (shSp)) (lf0 15 (pubSp)))
def a14C : Cx := ⟨tt, qt, bt, st, a14C_t, 0, 1000000000000000, fun _ => none, false, CxE.no, []⟩
theorem a14C_si {E : Env} (h : E.ok) : SpecsOk Try.prog E (CxE.no) a14C_t (fun _ => none) := ⟨(nd0_ok (nd0_ok (lf0_ok (.inl (mty_sp h))) (lf0_ok (.inl (reql_sp h)))) (nd0_ok (lf0_ok (.inl (sh_sp h))) (lf0_ok (.inl (pub_sp h))))), noI_ok _ _ _⟩
theorem a14C_x {E : Env} (h : E.ok) : CxEOk Try.prog E (CxE.no) := CxE.no_ok _ _
theorem a14C_cx (E : Env) (h : E.ok) (h1 : E.lo = 0) (h2 : E.hi = 1000000000000000) : Cx.ok a14C Try.prog E := ⟨tt_ok, qt_ok, bt_ok, a14C_si h, h, h1, h2, mixed_ok, a14C_x h⟩
theorem a14C_from (lo hi : Nat) (E : Env) (h : E.ok) (h1 : E.lo = lo) (h2 : E.hi = hi) : Cx.ok (Cx.from a14C lo hi) Try.prog E := ⟨tt_ok, qt_ok, bt_ok, a14C_si h, h, h1, h2, mixed_ok, a14C_x h⟩
abbrev aw14Sp : Spec := fnSpec [] [.bool] [] (fun _ => True) fun _ y => y.1 = true
theorem a14_fn : hasFn Try.prog 7 := ⟨_, Try.func7, by rfl, by rfl⟩
theorem aw14_sp {E : Env} (hE : E.ok) : SpecOk Try.prog E 7 aw14Sp := by
  refine spec_of_vc (C := a14C) a14_fn Try.func7 (by kernel_rfl) a14C_cx (fun x hl hx => ?_) hE
  obtain ⟨⟩ := x
  cbv
  (repeat' (first | ((with_reducible refine And.intro (fun h => ?_) (fun h => ?_)) <;> (first | with_reducible exact (tf h (by assumption)).elim | with_reducible exact (tf (by assumption) h).elim | cbv)) | ((with_reducible show JoinT (fun s K => vc _ (Code.region _ _ true) s K) _ _ _ _ _ _); (with_reducible apply JoinT.mg2); (focus (cbv; (repeat' (first | ((with_reducible refine And.intro (fun h => ?_) (fun h => ?_)) <;> (first | with_reducible exact (tf h (by assumption)).elim | with_reducible exact (tf (by assumption) h).elim | cbv)) | ((with_reducible first | refine Cb.mk ?_ | refine Lz.mk ?_ | refine JoinT.left ?_ | refine AllT.mk (fun x hx => ?_)); cbv) | ((with_reducible refine Ob.mk (fun _ => ?_) ?_); rotate_left 1) | (with_reducible first | refine Mg.mk (Exists.intro ?_ (And.intro ?_ ?_)) | rfl | refine Fin.mk ?_ | exact True.intro | refine And.intro ?_ ?_))); (all_goals (try (have du : Unit := (); have dv : Unit := (); first | exact Goes.self (Ex2.mk ⟨dv, du, trivial, trivial, rfl⟩) | exact Goes.self (Ex2.mk ⟨x, du, hx, trivial, rfl⟩) | (rename_i xa hxa; exact Goes.self (Ex2.mk ⟨xa, x, hxa, hx, rfl⟩))))); (all_goals (fail_if_success (with_reducible first | show Goes _ _ _ _ | show (∃ _, unr _ _ _ _ _ _))))))) | ((with_reducible first | refine Cb.mk ?_ | refine Lz.mk ?_ | refine JoinT.left ?_ | refine AllT.mk (fun x hx => ?_)); cbv) | ((with_reducible refine Ob.mk (fun _ => ?_) ?_); rotate_left 1) | (with_reducible first | refine Mg.mk (Exists.intro ?_ (And.intro ?_ ?_)) | rfl | refine Fin.mk ?_ | exact True.intro | refine And.intro ?_ ?_)))
  all_goals first | (with_reducible show (∃ _, unr _ _ _ _ _ _); skip) | (with_reducible show UnrI _ _ _ _ _; skip) | (with_reducible show Goes _ _ _ _; skip) | (with_reducible show JoinT _ _ _ _ _ _ _; skip) | (first | ((try dsimp only [Shp.D, Shp.Ds, Shp.dflt] at *); simp only [vem, veq, ne_eq, cmpI, arI, dvI, shI, SV.den, obLt, elemAt, obApp, partL, obPart, lowD, highD, mxOk, convL_self, zerosB, List.length_replicate, vln] at *; (try dsimp only [Shp.D, Shp.Ds, Shp.dflt, Shp.dflts] at *); done) | ((try dsimp only [Shp.D, Shp.Ds, Shp.dflt] at *); simp only [vem, veq, ne_eq, cmpI, arI, dvI, shI, SV.den, obLt, elemAt, obApp, partL, obPart, lowD, highD, mxOk, convL_self, zerosB, List.length_replicate, vln] at *; (try dsimp only [Shp.D, Shp.Ds, Shp.dflt, Shp.dflts] at *); omega) | (try ((try dsimp only [Shp.D, Shp.Ds, Shp.dflt] at *); simp only [vem, veq, ne_eq, cmpI, arI, dvI, shI, SV.den, obLt, elemAt, obApp, partL, obPart, lowD, highD, mxOk, convL_self, zerosB, List.length_replicate, vln] at *; (try dsimp only [Shp.D, Shp.Ds, Shp.dflt, Shp.dflts] at *))))
  all_goals
    simp only [e77, e32] at *
    obtain ⟨l, g1, g2, g3⟩ := pub_78
    simp only [mul_77, sh_77, g1, Prod.mk.injEq] at *
    simp_all
theorem u8_in14 {v : Int} (h : IntKind.u8.has v) : 0 ≤ v ∧ v ≤ 255 := by
  have h : IntKind.u8.min ≤ v ∧ v ≤ IntKind.u8.max := h
  rw [show IntKind.u8.min = 0 by decide, show IntKind.u8.max = 255 by decide] at h
  exact h
def ignC_t : SpecT := nd0 9 (nd0 8 (lf0 7 (aw14Sp)) (lf0 8 (newSpec 39))) (nd0 10 (lf0 9 (drSpec 39 [.int .i64] [.sl .byte] [.own 5] (fun x => x.1 ≤ 1048576) (fun x y => (y.1.length : Int) = max 0 x.1))) (nd0 12 (lf0 10 (mulSp14)) (lf0 12 (eqSp))))
def ignC : Cx := ⟨tt, qt, bt, st, ignC_t, 0, 1000000000000000, fun _ => none, false, CxE.no, []⟩
theorem ignC_si {E : Env} (h : E.ok) : SpecsOk Try.prog E (CxE.no) ignC_t (fun _ => none) := ⟨(nd0_ok (nd0_ok (lf0_ok (.inl (aw14_sp h))) (lf0_ok (.inl (new_sp h)))) (nd0_ok (lf0_ok (.inl (bytes_sp h))) (nd0_ok (lf0_ok (.inl (mty_sp h))) (lf0_ok (.inl (reql_sp h)))))), noI_ok _ _ _⟩
theorem ignC_x {E : Env} (h : E.ok) : CxEOk Try.prog E (CxE.no) := CxE.no_ok _ _
theorem ignC_cx (E : Env) (h : E.ok) (h1 : E.lo = 0) (h2 : E.hi = 1000000000000000) : Cx.ok ignC Try.prog E := ⟨tt_ok, qt_ok, bt_ok, ignC_si h, h, h1, h2, mixed_ok, ignC_x h⟩
theorem ignC_from (lo hi : Nat) (E : Env) (h : E.ok) (h1 : E.lo = lo) (h2 : E.hi = hi) : Cx.ok (Cx.from ignC lo hi) Try.prog E := ⟨tt_ok, qt_ok, bt_ok, ignC_si h, h, h1, h2, mixed_ok, ignC_x h⟩
abbrev ignAs : List Shp := [.sl .byte, .int .u8, .int .u8, .bool]
theorem ign_vc (x : Shp.Ds ignAs) (hi : inrs ignAs x) : vcLaw ignC Try.f5 ignAs x := by
  obtain ⟨codes, low, high, top, u⟩ := x
  have hv := u8_in14 hi.2.1
  have hw := u8_in14 hi.2.2.1
  clear hi
  cbv
  (repeat' (first | ((with_reducible refine And.intro (fun h => ?_) (fun h => ?_)) <;> (first | with_reducible exact (tf h (by assumption)).elim | with_reducible exact (tf (by assumption) h).elim | cbv)) | ((with_reducible show JoinT (fun s K => vc _ (Code.region _ _ true) s K) _ _ _ _ _ _); (with_reducible apply JoinT.mg2); (focus (cbv; (repeat' (first | ((with_reducible refine And.intro (fun h => ?_) (fun h => ?_)) <;> (first | with_reducible exact (tf h (by assumption)).elim | with_reducible exact (tf (by assumption) h).elim | cbv)) | ((with_reducible first | refine Cb.mk ?_ | refine Lz.mk ?_ | refine JoinT.left ?_ | refine AllT.mk (fun x hx => ?_)); cbv) | ((with_reducible refine Ob.mk (fun _ => ?_) ?_); rotate_left 1) | (with_reducible first | refine Mg.mk (Exists.intro ?_ (And.intro ?_ ?_)) | rfl | refine Fin.mk ?_ | exact True.intro | refine And.intro ?_ ?_))); (all_goals (try (have du : Unit := (); have dv : Unit := (); first | exact Goes.self (Ex2.mk ⟨dv, du, trivial, trivial, rfl⟩) | exact Goes.self (Ex2.mk ⟨x, du, hx, trivial, rfl⟩) | (rename_i xa hxa; exact Goes.self (Ex2.mk ⟨xa, x, hxa, hx, rfl⟩))))); (all_goals (fail_if_success (with_reducible first | show Goes _ _ _ _ | show (∃ _, unr _ _ _ _ _ _))))))) | ((with_reducible first | refine Cb.mk ?_ | refine Lz.mk ?_ | refine JoinT.left ?_ | refine AllT.mk (fun x hx => ?_)); cbv) | ((with_reducible refine Ob.mk (fun _ => ?_) ?_); rotate_left 1) | (with_reducible first | refine Mg.mk (Exists.intro ?_ (And.intro ?_ ?_)) | rfl | refine Fin.mk ?_ | exact True.intro | refine And.intro ?_ ?_)))
  all_goals first | (with_reducible show (∃ _, unr _ _ _ _ _ _); skip) | (with_reducible show UnrI _ _ _ _ _; skip) | (with_reducible show Goes _ _ _ _; skip) | (with_reducible show JoinT _ _ _ _ _ _ _; skip) | (first | ((try dsimp only [Shp.D, Shp.Ds, Shp.dflt] at *); simp only [vem, veq, ne_eq, cmpI, arI, dvI, shI, SV.den, obLt, elemAt, obApp, partL, obPart, lowD, highD, mxOk, convL_self, zerosB, List.length_replicate, vln] at *; (try dsimp only [Shp.D, Shp.Ds, Shp.dflt, Shp.dflts] at *); done) | ((try dsimp only [Shp.D, Shp.Ds, Shp.dflt] at *); simp only [vem, veq, ne_eq, cmpI, arI, dvI, shI, SV.den, obLt, elemAt, obApp, partL, obPart, lowD, highD, mxOk, convL_self, zerosB, List.length_replicate, vln] at *; (try dsimp only [Shp.D, Shp.Ds, Shp.dflt, Shp.dflts] at *); omega) | ((try dsimp only [Shp.D, Shp.Ds, Shp.dflt] at *); simp only [vem, veq, ne_eq, cmpI, arI, dvI, shI, SV.den, obLt, elemAt, obApp, partL, obPart, lowD, highD, mxOk, convL_self, zerosB, List.length_replicate, vln] at *; (try dsimp only [Shp.D, Shp.Ds, Shp.dflt, Shp.dflts] at *); exact (bits_rng8 _ _ _).1) | ((try dsimp only [Shp.D, Shp.Ds, Shp.dflt] at *); simp only [vem, veq, ne_eq, cmpI, arI, dvI, shI, SV.den, obLt, elemAt, obApp, partL, obPart, lowD, highD, mxOk, convL_self, zerosB, List.length_replicate, vln] at *; (try dsimp only [Shp.D, Shp.Ds, Shp.dflt, Shp.dflts] at *); exact (bits_rng8 _ _ _).2) | (((try dsimp only [Shp.D, Shp.Ds, Shp.dflt] at *); simp only [vem, veq, ne_eq, cmpI, arI, dvI, shI, SV.den, obLt, elemAt, obApp, partL, obPart, lowD, highD, mxOk, convL_self, zerosB, List.length_replicate, vln] at *; (try dsimp only [Shp.D, Shp.Ds, Shp.dflt, Shp.dflts] at *)); simp only [setAt, List.length_set, List.length_append, List.length_nil]; omega) | (try ((try dsimp only [Shp.D, Shp.Ds, Shp.dflt] at *); simp only [vem, veq, ne_eq, cmpI, arI, dvI, shI, SV.den, obLt, elemAt, obApp, partL, obPart, lowD, highD, mxOk, convL_self, zerosB, List.length_replicate, vln] at *; (try dsimp only [Shp.D, Shp.Ds, Shp.dflt, Shp.dflts] at *))))
  all_goals
    first
      | (simp_all; done)
      | ((try simp only [List.nil_append] at *)
         (try simp (disch := omega) only [ig_s, ig_p, mul_ig1, mul_ig2, mul_e, Prod.mk.injEq] at *)
         simp_all)
theorem law_CurveIgnores (x : Shp.Ds ignAs) (w : World) (vals : List Value) (hr : ArgsRep w ignAs x vals) (hi : inrs ignAs x) : Calls Try.prog 5 vals.toArray w fun e w' => e = .returned (.bool true) ∧ Below w.heap.size w w' :=
  law_of_vc Try.func5 (by kernel_rfl) ignC_cx hr (ign_vc x hi)
end Go.Proofs.Ytihnagafldpbnaa.V
