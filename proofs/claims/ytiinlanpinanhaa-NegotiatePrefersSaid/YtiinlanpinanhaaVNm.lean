/- The law NegotiatePrefers. -/
import Derived.Test.YtiinlanpinanhaaVNa
import Derived.Test.YtiinlanpinanhaaVL
set_option linter.unusedVariables false
set_option linter.unusedSimpArgs false
namespace Go.Proofs.Ytiinlanpinanhaa.V
open Go.RowKit
set_option maxHeartbeats 8000000
set_option maxRecDepth 100000
theorem type1 (a c : Int) : typeF [(1, a, c, ())] = 2 := by kernel_rfl
theorem type2 (a c a' c' : Int) : typeF [(1, a, c, ()), (1, a', c', ())] = 2 := by kernel_rfl
theorem kinds2 (w o : List TrT) : kindsF 2 w o [1, 2, 3, 4, 5] = match pickT w o 1 with | none => none | some t => some [t] := by
  have h1 : decide (bits .and .u64 2 (IntKind.u64.wrap (1 * 2 ^ min (Int.toNat 1) 64)) = 0) = false := by kernel_rfl
  have h2 : decide (bits .and .u64 2 (IntKind.u64.wrap (1 * 2 ^ min (Int.toNat 2) 64)) = 0) = true := by kernel_rfl
  have h3 : decide (bits .and .u64 2 (IntKind.u64.wrap (1 * 2 ^ min (Int.toNat 3) 64)) = 0) = true := by kernel_rfl
  have h4 : decide (bits .and .u64 2 (IntKind.u64.wrap (1 * 2 ^ min (Int.toNat 4) 64)) = 0) = true := by kernel_rfl
  have h5 : decide (bits .and .u64 2 (IntKind.u64.wrap (1 * 2 ^ min (Int.toNat 5) 64)) = 0) = true := by kernel_rfl
  simp only [kindsF, h1, h2, h3, h4, h5]
  cases pickT w o 1 <;> rfl
theorem pick11 (a c a' c' : Int) : pickT [(1, a, c, ())] [(1, a', c', ())] 1 = if a = a' ∧ c = c' then some (1, a, c, ()) else none := by
  by_cases h : a = a' ∧ c = c'
  · simp [pickT, hasT, eqT, h]
  · rw [if_neg h]; simp [pickT, hasT, eqT]; intro h1 h2; exact h ⟨h1, h2⟩
theorem prefer1 (a b : Int) : chooseR [(1, 1, [], [(1, a, 0, ())], ()), (2, 1, [], [(1, b, 256, ())], ())] [(1, 1, [], [(1, b, 256, ())], ()), (2, 1, [], [(1, a, 0, ())], ())] = ((2, 1, [], [(1, b, 256, ())], ()), 0) := by
  simp [chooseR, chooseF, fit, choiceF, choiceL, type1, kinds2, pick11]
theorem pick21 (t : TrT) (l o : List TrT) (h1 : t.1 = 1) (h2 : hasT o t = true) : pickT (t :: l) o 1 = some t := by
  simp [pickT, h1, h2]
theorem prefer2 (a c a' c' : Int) (o : List TrT) (ho : typeF o = 2) (h : hasT o (1, a, c, ()) = true) : chooseR [(1, 1, [], o, ())] [(1, 1, [], [(1, a, c, ()), (1, a', c', ())], ())] = ((1, 1, [], [(1, a, c, ())], ()), 0) := by
  simp [chooseR, chooseF, fit, choiceF, choiceL, type2, ho, kinds2, pick21 _ _ _ rfl h]
theorem prefer2a (a b : Int) : chooseR [(1, 1, [], [(1, a, 0, ()), (1, b, 256, ())], ())] [(1, 1, [], [(1, a, 0, ()), (1, b, 256, ())], ())] = ((1, 1, [], [(1, a, 0, ())], ()), 0) := prefer2 _ _ _ _ _ (type2 _ _ _ _) (by simp [hasT, eqT])
theorem prefer2b (a b : Int) : chooseR [(1, 1, [], [(1, a, 0, ()), (1, b, 256, ())], ())] [(1, 1, [], [(1, b, 256, ()), (1, a, 0, ())], ())] = ((1, 1, [], [(1, b, 256, ())], ()), 0) := prefer2 _ _ _ _ _ (type2 _ _ _ _) (by simp [hasT, eqT])
def npC_t : SpecT := nd0 24 (nd0 23 (lf0 15 (newSpec 94)) (lf0 23 (awnSp))) (nd0 25 (lf0 24 (drSpec 94 [.int .i64] [.int .i64] [] nextPre nextPost)) (lf0 25 (cseSp)))
def npC : Cx := ⟨tt, qt, bt, st, npC_t, 0, 1000000000000000, fun _ => none, false⟩
theorem npC_si {E : Env} (h : E.ok) : SpecsOk Try.prog E npC_t (fun _ => none) := ⟨(nd0_ok (nd0_ok (lf0_ok (new_sp h)) (lf0_ok (awn_sp h))) (nd0_ok (lf0_ok (next_sp h)) (lf0_ok (cse_sp h)))), noI_ok _ _⟩
theorem npC_cx (E : Env) (h : E.ok) (h1 : E.lo = 0) (h2 : E.hi = 1000000000000000) : Cx.ok npC Try.prog E := ⟨tt_ok, qt_ok, bt_ok, npC_si h, h, h1, h2, mixed_ok⟩
theorem npC_from (lo hi : Nat) (E : Env) (h : E.ok) (h1 : E.lo = lo) (h2 : E.hi = hi) : Cx.ok (Cx.from npC lo hi) Try.prog E := ⟨tt_ok, qt_ok, bt_ok, npC_si h, h, h1, h2, mixed_ok⟩
abbrev npAs : List Shp := [.sl .byte, .bool]
theorem np_vc (x : Shp.Ds npAs) : vcLaw npC Try.f5 npAs x := by
  obtain ⟨b, turn, u⟩ := x
  cbv
  (repeat' (first | ((with_reducible refine And.intro (fun h => ?_) (fun h => ?_)) <;> (first | with_reducible exact (tf h (by assumption)).elim | with_reducible exact (tf (by assumption) h).elim | cbv)) | ((with_reducible show JoinT (fun s K => vc _ (Code.region _ _ true) s K) _ _ _ _ _); (with_reducible apply JoinT.mg2); (focus (cbv; (repeat' (first | ((with_reducible refine And.intro (fun h => ?_) (fun h => ?_)) <;> (first | with_reducible exact (tf h (by assumption)).elim | with_reducible exact (tf (by assumption) h).elim | cbv)) | ((with_reducible first | refine Cb.mk ?_ | refine Lz.mk ?_ | refine JoinT.left ?_ | refine AllT.mk (fun x hx => ?_)); cbv) | ((with_reducible refine Ob.mk (fun _ => ?_) ?_); rotate_left 1) | (with_reducible first | refine Mg.mk (Exists.intro ?_ (And.intro ?_ ?_)) | rfl | refine Fin.mk ?_ | exact True.intro | refine And.intro ?_ ?_))); (all_goals (try (have du : Unit := (); have dv : Unit := (); first | exact Goes.self (Ex2.mk ⟨dv, du, trivial, trivial, rfl⟩) | exact Goes.self (Ex2.mk ⟨x, du, hx, trivial, rfl⟩) | (rename_i xa hxa; exact Goes.self (Ex2.mk ⟨xa, x, hxa, hx, rfl⟩))))); (all_goals (fail_if_success (with_reducible first | show Goes _ _ _ _ | show (∃ _, unr _ _ _ _ _ _))))))) | ((with_reducible first | refine Cb.mk ?_ | refine Lz.mk ?_ | refine JoinT.left ?_ | refine AllT.mk (fun x hx => ?_)); cbv) | ((with_reducible refine Ob.mk (fun _ => ?_) ?_); rotate_left 1) | (with_reducible first | refine Mg.mk (Exists.intro ?_ (And.intro ?_ ?_)) | rfl | refine Fin.mk ?_ | exact True.intro | refine And.intro ?_ ?_)))
  all_goals first | (with_reducible show (∃ _, unr _ _ _ _ _ _); skip) | (with_reducible show Goes _ _ _ _; skip) | (with_reducible show JoinT _ _ _ _ _ _; skip) | (first | ((try dsimp only [Shp.D, Shp.Ds, Shp.dflt] at *); simp only [vem, veq, ne_eq, cmpI, arI, dvI, shI, SV.den, obLt, elemAt, obApp, partL, obPart, lowD, highD, mxOk, convL_self, zerosB, List.length_replicate, vln] at *; (try dsimp only [Shp.D, Shp.Ds, Shp.dflt, Shp.dflts] at *); done) | ((try dsimp only [Shp.D, Shp.Ds, Shp.dflt] at *); simp only [vem, veq, ne_eq, cmpI, arI, dvI, shI, SV.den, obLt, elemAt, obApp, partL, obPart, lowD, highD, mxOk, convL_self, zerosB, List.length_replicate, vln] at *; (try dsimp only [Shp.D, Shp.Ds, Shp.dflt, Shp.dflts] at *); exact okP_lit rfl) | ((try dsimp only [Shp.D, Shp.Ds, Shp.dflt] at *); simp only [vem, veq, ne_eq, cmpI, arI, dvI, shI, SV.den, obLt, elemAt, obApp, partL, obPart, lowD, highD, mxOk, convL_self, zerosB, List.length_replicate, vln] at *; (try dsimp only [Shp.D, Shp.Ds, Shp.dflt, Shp.dflts] at *); simp only [prefer1, prefer2a, prefer2b, Prod.mk.injEq] at *; simp_all; done) | ((try dsimp only [Shp.D, Shp.Ds, Shp.dflt] at *); simp only [vem, veq, ne_eq, cmpI, arI, dvI, shI, SV.den, obLt, elemAt, obApp, partL, obPart, lowD, highD, mxOk, convL_self, zerosB, List.length_replicate, vln] at *; (try dsimp only [Shp.D, Shp.Ds, Shp.dflt, Shp.dflts] at *); omega) | ((try dsimp only [Shp.D, Shp.Ds, Shp.dflt] at *); simp only [vem, veq, ne_eq, cmpI, arI, dvI, shI, SV.den, obLt, elemAt, obApp, partL, obPart, lowD, highD, mxOk, convL_self, zerosB, List.length_replicate, vln] at *; (try dsimp only [Shp.D, Shp.Ds, Shp.dflt, Shp.dflts] at *); simp_all; done))
theorem law_NegotiatePrefers (x : Shp.Ds npAs) (w : World) (vals : List Value) (hr : ArgsRep w npAs x vals) (_ : inrs npAs x) : Calls Try.prog 5 vals.toArray w fun e w' => e = .returned (.bool true) ∧ Below w.heap.size w w' :=
  law_of_vc Try.func5 (by kernel_rfl) npC_cx hr (np_vc x)
end Go.Proofs.Ytiinlanpinanhaa.V
