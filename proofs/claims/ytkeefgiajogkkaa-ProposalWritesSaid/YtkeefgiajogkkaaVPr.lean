/- Contracts: the document's reader of proposals (begun). -/
import Derived.Test.YtkeefgiajogkkaaVPl
import Derived.Test.YtkeefgiajogkkaaVPp
set_option linter.unusedVariables false
set_option linter.unusedSimpArgs false
namespace Go.Proofs.Ytkeefgiajogkkaa.V
open Go.RowKit
set_option maxHeartbeats 8000000
set_option maxRecDepth 100000
abbrev wordPre : Shp.Ds [.sl .byte, .int .i64] → Prop := fun x => -9223372036854775808 ≤ x.2.1 ∧ x.2.1 ≤ 9223372036854775807
abbrev wordFn : Spec := fnFn [.sl .byte, .int .i64] [.int .i64] wordPre fun x => ((numF x.1 x.2.1 2).1, ())
def rwoC_t : SpecT := lf0 45 (numSp)
def rwoC : Cx := ⟨tt, qt, bt, st, rwoC_t, 0, 1000000000000000, fun _ => none, false, CxE.no, []⟩
theorem rwoC_si {E : Env} (h : E.ok) : SpecsOk Try.prog E (CxE.no) rwoC_t (fun _ => none) := ⟨(lf0_ok (.inl (rnum_sp h))), noI_ok _ _ _⟩
theorem rwoC_x {E : Env} (h : E.ok) : CxEOk Try.prog E (CxE.no) := CxE.no_ok _ _
theorem rwoC_cx (E : Env) (h : E.ok) (h1 : E.lo = 0) (h2 : E.hi = 1000000000000000) : Cx.ok rwoC Try.prog E := ⟨tt_ok, qt_ok, bt_ok, rwoC_si h, h, h1, h2, mixed_ok, rwoC_x h⟩
theorem rwoC_from (lo hi : Nat) (E : Env) (h : E.ok) (h1 : E.lo = lo) (h2 : E.hi = hi) : Cx.ok (Cx.from rwoC lo hi) Try.prog E := ⟨tt_ok, qt_ok, bt_ok, rwoC_si h, h, h1, h2, mixed_ok, rwoC_x h⟩
theorem rwo_fn : hasFn Try.prog 40 := ⟨_, Try.func40, by rfl, by rfl⟩
theorem rwo_sp {E : Env} (hE : E.ok) : SpecOk Try.prog E 40 wordFn := by
 refine fnFn_of (pre := wordPre) (post := fun (x : Shp.Ds [.sl .byte, .int .i64]) (y : Shp.Ds [.int .i64]) => y.1 = (numF x.1 x.2.1 2).1) ?_ fun x y h => by rw [← h]
 refine spec_of_vc (C := rwoC) rwo_fn Try.func40 (by kernel_rfl) rwoC_cx (fun x hl hx => ?_) hE
 obtain ⟨b, a, ⟨⟩⟩ := x
 obtain ⟨h1, h2⟩ := hx
 cbv
 (repeat' (first | ((with_reducible apply And.intro <;> intro h) <;> (first | with_reducible exact (tf h (by assumption)).elim | with_reducible exact (tf (by assumption) h).elim | cbv)) | ((with_reducible first | refine Cb.mk ?_ | refine Lz.mk ?_ | refine JoinT.left ?_ | (apply AllT.mk; intro x hx)); cbv) | ((with_reducible refine Ob.mk (fun _ => ?_) ?_); rotate_left 1) | (with_reducible first | refine Mg.mk (Exists.intro ?_ (And.intro ?_ ?_)) | rfl | refine Fin.mk ?_ | exact True.intro | refine And.intro ?_ ?_)))
 all_goals first | (with_reducible show (∃ _, unr _ _ _ _ _ _); skip) | (with_reducible show UnrI _ _ _ _ _; skip) | (with_reducible show Goes _ _ _ _; skip) | (with_reducible show JoinT _ _ _ _ _ _ _; skip) | (first | ((try dsimp only [Shp.D, Shp.Ds, Shp.dflt] at *); simp only [vem, veq, ne_eq, cmpI, arI, dvI, shI, SV.den, obLt, elemAt, obApp, partL, obPart, lowD, highD, mxOk, convL_self, zerosB, List.length_replicate, vln] at *; (try dsimp only [Shp.D, Shp.Ds, Shp.dflt, Shp.dflts] at *); done) | ((try dsimp only [Shp.D, Shp.Ds, Shp.dflt] at *); simp only [vem, veq, ne_eq, cmpI, arI, dvI, shI, SV.den, obLt, elemAt, obApp, partL, obPart, lowD, highD, mxOk, convL_self, zerosB, List.length_replicate, vln] at *; (try dsimp only [Shp.D, Shp.Ds, Shp.dflt, Shp.dflts] at *); exact nW2 b a) | ((try dsimp only [Shp.D, Shp.Ds, Shp.dflt] at *); simp only [vem, veq, ne_eq, cmpI, arI, dvI, shI, SV.den, obLt, elemAt, obApp, partL, obPart, lowD, highD, mxOk, convL_self, zerosB, List.length_replicate, vln] at *; (try dsimp only [Shp.D, Shp.Ds, Shp.dflt, Shp.dflts] at *); omega))
def attF (b : List UInt8) : Int × Bool :=
 if b.length = 0 then (0, true)
 else if ¬ b.length = 4 ∨ ¬ (numF b 0 2).1 = 32782 ∨ (numF b 2 2).1 = 0 then (0, false)
 else ((numF b 2 2).1, true)
abbrev attFn : Spec := fnFn [.sl .byte] [.int .i64, .bool] (fun _ => True) fun x => ((attF x.1).1, (attF x.1).2, ())
theorem att_0 {b : List UInt8} (h : (b.length : Int) = 0) : attF b = (0, true) := by unfold attF; rw [if_pos (by omega)]
theorem att_1 {b : List UInt8} (h : ¬ (b.length : Int) = 0) (h2 : ¬ (b.length : Int) = 4 ∨ ¬ (numF b 0 2).1 = 32782 ∨ (numF b 2 2).1 = 0) : attF b = (0, false) := by unfold attF; rw [if_neg (by omega), if_pos (by omega)]
theorem att_2 {b : List UInt8} (h : ¬ (b.length : Int) = 0) (h2 : ¬ (¬ (b.length : Int) = 4 ∨ ¬ (numF b 0 2).1 = 32782 ∨ (numF b 2 2).1 = 0)) : attF b = ((numF b 2 2).1, true) := by unfold attF; rw [if_neg (by omega), if_neg (by omega)]
def ratC_t : SpecT := lf0 40 (wordFn)
def ratC : Cx := ⟨tt, qt, bt, st, ratC_t, 0, 1000000000000000, fun _ => none, false, CxE.no, []⟩
theorem ratC_si {E : Env} (h : E.ok) : SpecsOk Try.prog E (CxE.no) ratC_t (fun _ => none) := ⟨(lf0_ok (.inl (rwo_sp h))), noI_ok _ _ _⟩
theorem ratC_x {E : Env} (h : E.ok) : CxEOk Try.prog E (CxE.no) := CxE.no_ok _ _
theorem ratC_cx (E : Env) (h : E.ok) (h1 : E.lo = 0) (h2 : E.hi = 1000000000000000) : Cx.ok ratC Try.prog E := ⟨tt_ok, qt_ok, bt_ok, ratC_si h, h, h1, h2, mixed_ok, ratC_x h⟩
theorem ratC_from (lo hi : Nat) (E : Env) (h : E.ok) (h1 : E.lo = lo) (h2 : E.hi = hi) : Cx.ok (Cx.from ratC lo hi) Try.prog E := ⟨tt_ok, qt_ok, bt_ok, ratC_si h, h, h1, h2, mixed_ok, ratC_x h⟩
theorem rat_fn : hasFn Try.prog 46 := ⟨_, Try.func46, by rfl, by rfl⟩
theorem rat_sp {E : Env} (hE : E.ok) : SpecOk Try.prog E 46 attFn := by
 refine fnFn_of (pre := fun _ => True) (post := fun (x : Shp.Ds [.sl .byte]) (y : Shp.Ds [.int .i64, .bool]) => (y.1, y.2.1) = attF x.1) ?_ fun x y h => by rw [← h]
 refine spec_of_vc (C := ratC) rat_fn Try.func46 (by kernel_rfl) ratC_cx (fun x hl hx => ?_) hE
 obtain ⟨b, ⟨⟩⟩ := x
 cbv
 (repeat' (first | ((with_reducible apply And.intro <;> intro h) <;> (first | with_reducible exact (tf h (by assumption)).elim | with_reducible exact (tf (by assumption) h).elim | cbv)) | ((with_reducible first | refine Cb.mk ?_ | refine Lz.mk ?_ | refine JoinT.left ?_ | (apply AllT.mk; intro x hx)); cbv) | ((with_reducible refine Ob.mk (fun _ => ?_) ?_); rotate_left 1) | (with_reducible first | refine Mg.mk (Exists.intro ?_ (And.intro ?_ ?_)) | rfl | refine Fin.mk ?_ | exact True.intro | refine And.intro ?_ ?_)))
 all_goals first | (with_reducible show (∃ _, unr _ _ _ _ _ _); skip) | (with_reducible show UnrI _ _ _ _ _; skip) | (with_reducible show Goes _ _ _ _; skip) | (with_reducible show JoinT _ _ _ _ _ _ _; skip) | (first | ((try dsimp only [Shp.D, Shp.Ds, Shp.dflt] at *); simp only [vem, veq, ne_eq, cmpI, arI, dvI, shI, SV.den, obLt, elemAt, obApp, partL, obPart, lowD, highD, mxOk, convL_self, zerosB, List.length_replicate, vln] at *; (try dsimp only [Shp.D, Shp.Ds, Shp.dflt, Shp.dflts] at *); done) | ((try dsimp only [Shp.D, Shp.Ds, Shp.dflt] at *); simp only [vem, veq, ne_eq, cmpI, arI, dvI, shI, SV.den, obLt, elemAt, obApp, partL, obPart, lowD, highD, mxOk, convL_self, zerosB, List.length_replicate, vln] at *; (try dsimp only [Shp.D, Shp.Ds, Shp.dflt, Shp.dflts] at *); omega) | ((try dsimp only [Shp.D, Shp.Ds, Shp.dflt] at *); simp only [vem, veq, ne_eq, cmpI, arI, dvI, shI, SV.den, obLt, elemAt, obApp, partL, obPart, lowD, highD, mxOk, convL_self, zerosB, List.length_replicate, vln] at *; (try dsimp only [Shp.D, Shp.Ds, Shp.dflt, Shp.dflts] at *); exact (att_0 (by assumption)).symm) | ((try dsimp only [Shp.D, Shp.Ds, Shp.dflt] at *); simp only [vem, veq, ne_eq, cmpI, arI, dvI, shI, SV.den, obLt, elemAt, obApp, partL, obPart, lowD, highD, mxOk, convL_self, zerosB, List.length_replicate, vln] at *; (try dsimp only [Shp.D, Shp.Ds, Shp.dflt, Shp.dflts] at *); exact (att_1 (by assumption) (by omega)).symm) | ((try dsimp only [Shp.D, Shp.Ds, Shp.dflt] at *); simp only [vem, veq, ne_eq, cmpI, arI, dvI, shI, SV.den, obLt, elemAt, obApp, partL, obPart, lowD, highD, mxOk, convL_self, zerosB, List.length_replicate, vln] at *; (try dsimp only [Shp.D, Shp.Ds, Shp.dflt, Shp.dflts] at *); exact (att_2 (by assumption) (by omega)).symm) | (try ((try dsimp only [Shp.D, Shp.Ds, Shp.dflt] at *); simp only [vem, veq, ne_eq, cmpI, arI, dvI, shI, SV.den, obLt, elemAt, obApp, partL, obPart, lowD, highD, mxOk, convL_self, zerosB, List.length_replicate, vln] at *; (try dsimp only [Shp.D, Shp.Ds, Shp.dflt, Shp.dflts] at *))))
end Go.Proofs.Ytkeefgiajogkkaa.V
