/- payload: Build of the example; the law PayloadLimits. -/
import Derived.Test.YtbdfijdianaghaaVMb
set_option linter.unusedVariables false
set_option linter.unusedSimpArgs false
namespace Go.Proofs.Ytbdfijdianaghaa.V
open Go.RowKit
set_option maxHeartbeats 8000000
set_option maxRecDepth 100000
def cktF (p n : Int) : Int := if p < 0 ∨ 3 < p then 5 else if n = (if 1 < p then 4 else 0) then 0 else 20
theorem ckt_fn : hasFn Try.prog 54 := ⟨_, Try.func54, by rfl, by rfl⟩
abbrev cktSp : Spec := fnSpec [.int .i64, .int .i64] [.int .i64] [] (fun _ => True) fun (x : Shp.Ds [.int .i64, .int .i64]) (y : Shp.Ds [.int .i64]) => y.1 = cktF x.1 x.2.1
theorem ckt_sp {E : Env} (hE : E.ok) : SpecOk Try.prog E 54 cktSp := by
 refine spec_of_vc (C := noC) ckt_fn Try.func54 (by kernel_rfl) noC_cx (fun x hl hx => ?_) hE
 obtain ⟨p, n, ⟨⟩⟩ := x
 cbv
 (repeat' (first | ((with_reducible refine And.intro (fun h => ?_) (fun h => ?_)) <;> (first | with_reducible exact (tf h (by assumption)).elim | with_reducible exact (tf (by assumption) h).elim | cbv)) | ((with_reducible show JoinT (fun s K => vc _ (Code.region _ _ true) s K) _ _ _ _ _ _); (with_reducible apply JoinT.mg2); (focus (cbv; (repeat' (first | ((with_reducible refine And.intro (fun h => ?_) (fun h => ?_)) <;> (first | with_reducible exact (tf h (by assumption)).elim | with_reducible exact (tf (by assumption) h).elim | cbv)) | ((with_reducible first | refine Cb.mk ?_ | refine Lz.mk ?_ | refine JoinT.left ?_ | refine AllT.mk (fun x hx => ?_)); cbv) | ((with_reducible refine Ob.mk (fun _ => ?_) ?_); rotate_left 1) | (with_reducible first | refine Mg.mk (Exists.intro ?_ (And.intro ?_ ?_)) | rfl | refine Fin.mk ?_ | exact True.intro | refine And.intro ?_ ?_))); (all_goals (try (have du : Unit := (); have dv : Unit := (); first | exact Goes.self (Ex2.mk ⟨dv, du, trivial, trivial, rfl⟩) | exact Goes.self (Ex2.mk ⟨x, du, hx, trivial, rfl⟩) | (rename_i xa hxa; exact Goes.self (Ex2.mk ⟨xa, x, hxa, hx, rfl⟩))))); (all_goals (fail_if_success (with_reducible first | show Goes _ _ _ _ | show (∃ _, unr _ _ _ _ _ _))))))) | ((with_reducible first | refine Cb.mk ?_ | refine Lz.mk ?_ | refine JoinT.left ?_ | refine AllT.mk (fun x hx => ?_)); cbv) | ((with_reducible refine Ob.mk (fun _ => ?_) ?_); rotate_left 1) | (with_reducible first | refine Mg.mk (Exists.intro ?_ (And.intro ?_ ?_)) | rfl | refine Fin.mk ?_ | exact True.intro | refine And.intro ?_ ?_)))
 all_goals first | (with_reducible show (∃ _, unr _ _ _ _ _ _); skip) | (with_reducible show UnrI _ _ _ _ _; skip) | (with_reducible show Goes _ _ _ _; skip) | (with_reducible show JoinT _ _ _ _ _ _ _; skip) | (first | ((try dsimp only [Shp.D, Shp.Ds, Shp.dflt] at *); simp only [vem, veq, ne_eq, cmpI, arI, dvI, shI, SV.den, obLt, elemAt, obApp, partL, obPart, lowD, highD, mxOk, convL_self, zerosB, List.length_replicate, vln] at *; (try dsimp only [Shp.D, Shp.Ds, Shp.dflt, Shp.dflts] at *); done) | ((try dsimp only [Shp.D, Shp.Ds, Shp.dflt] at *); simp only [vem, veq, ne_eq, cmpI, arI, dvI, shI, SV.den, obLt, elemAt, obApp, partL, obPart, lowD, highD, mxOk, convL_self, zerosB, List.length_replicate, vln] at *; (try dsimp only [Shp.D, Shp.Ds, Shp.dflt, Shp.dflts] at *); omega) | (((try dsimp only [Shp.D, Shp.Ds, Shp.dflt] at *); simp only [vem, veq, ne_eq, cmpI, arI, dvI, shI, SV.den, obLt, elemAt, obApp, partL, obPart, lowD, highD, mxOk, convL_self, zerosB, List.length_replicate, vln] at *; (try dsimp only [Shp.D, Shp.Ds, Shp.dflt, Shp.dflts] at *)); unfold cktF; (repeat' split) <;> omega))
structure IsAw (k : Int) (np : Int) (ns : List UInt8) (nt : Int) (nd : List UInt8) : Prop where
 k : k = 41
 p : np = 0
 s : ns.length = 0
 t : nt = 16388
 d : nd.length = 0
def bnC_t : SpecT := lf0 54 (cktSp)
def bnC : Cx := ⟨tt, qt, bt, st, bnC_t, 0, 1000000000000000, fun _ => none, false, CxE.no, []⟩
theorem bnC_si {E : Env} (h : E.ok) : SpecsOk Try.prog E (CxE.no) bnC_t (fun _ => none) := ⟨(lf0_ok (.inl (ckt_sp h))), noI_ok _ _ _⟩
theorem bnC_x {E : Env} (h : E.ok) : CxEOk Try.prog E (CxE.no) := CxE.no_ok _ _
theorem bnC_cx (E : Env) (h : E.ok) (h1 : E.lo = 0) (h2 : E.hi = 1000000000000000) : Cx.ok bnC Try.prog E := ⟨tt_ok, qt_ok, bt_ok, bnC_si h, h, h1, h2, mixed_ok, bnC_x h⟩
theorem bnC_from (lo hi : Nat) (E : Env) (h : E.ok) (h1 : E.lo = lo) (h2 : E.hi = hi) : Cx.ok (Cx.from bnC lo hi) Try.prog E := ⟨tt_ok, qt_ok, bt_ok, bnC_si h, h, h1, h2, mixed_ok, bnC_x h⟩
def boC_t : SpecT := fun _ => none
def boC_i : SpecT := lf0 48 (inlSpec bnC Try.f48)
def boC : Cx := ⟨tt, qt, bt, st, boC_t, 0, 1000000000000000, boC_i, true, CxE.no, []⟩
theorem boC_si {E : Env} (h : E.ok) : SpecsOk Try.prog E (CxE.no) boC_t (boC_i) := ⟨(fun t f h => by cases h), (lf0_ok (inl_ok h bnC_from Try.func48 ⟨by rfl, by rfl⟩ (by kernel_rfl)))⟩
theorem boC_x {E : Env} (h : E.ok) : CxEOk Try.prog E (CxE.no) := CxE.no_ok _ _
theorem boC_cx (E : Env) (h : E.ok) (h1 : E.lo = 0) (h2 : E.hi = 1000000000000000) : Cx.ok boC Try.prog E := ⟨tt_ok, qt_ok, bt_ok, boC_si h, h, h1, h2, mixed_ok, boC_x h⟩
theorem boC_from (lo hi : Nat) (E : Env) (h : E.ok) (h1 : E.lo = lo) (h2 : E.hi = hi) : Cx.ok (Cx.from boC lo hi) Try.prog E := ⟨tt_ok, qt_ok, bt_ok, boC_si h, h, h1, h2, mixed_ok, boC_x h⟩
def buC_t : SpecT := fun _ => none
def buC_i : SpecT := lf0 29 (inlSpec boC Try.f29)
def buC : Cx := ⟨tt, qt, bt, st, buC_t, 0, 1000000000000000, buC_i, true, CxE.no, []⟩
theorem buC_si {E : Env} (h : E.ok) : SpecsOk Try.prog E (CxE.no) buC_t (buC_i) := ⟨(fun t f h => by cases h), (lf0_ok (inl_ok h boC_from Try.func29 ⟨by rfl, by rfl⟩ (by kernel_rfl)))⟩
theorem buC_x {E : Env} (h : E.ok) : CxEOk Try.prog E (CxE.no) := CxE.no_ok _ _
theorem buC_cx (E : Env) (h : E.ok) (h1 : E.lo = 0) (h2 : E.hi = 1000000000000000) : Cx.ok buC Try.prog E := ⟨tt_ok, qt_ok, bt_ok, buC_si h, h, h1, h2, mixed_ok, buC_x h⟩
theorem buC_from (lo hi : Nat) (E : Env) (h : E.ok) (h1 : E.lo = lo) (h2 : E.hi = hi) : Cx.ok (Cx.from buC lo hi) Try.prog E := ⟨tt_ok, qt_ok, bt_ok, buC_si h, h, h1, h2, mixed_ok, buC_x h⟩
abbrev bldSp : Spec := fnSpec [plE] [rawE, .int .i64] [5] (fun (x : Shp.Ds [plE]) => IsAw x.1.1 x.1.2.2.2.2.2.1.1 x.1.2.2.2.2.2.1.2.1 x.1.2.2.2.2.2.1.2.2.1 x.1.2.2.2.2.2.1.2.2.2.1) fun (x : Shp.Ds [plE]) (y : Shp.Ds [rawE, .int .i64]) => y.1.1 = 41 ∧ y.1.2.2.1 = [0, 0, 64, 4] ∧ y.2.1 = 0
theorem bld_fn : hasFn Try.prog 20 := ⟨_, Try.func20, by rfl, by rfl⟩
theorem bld_sp {E : Env} (hE : E.ok) : SpecOk Try.prog E 20 bldSp := by
 refine spec_of_vc (C := buC) bld_fn Try.func20 (by kernel_rfl) buC_cx (fun x hl hx => ?_) hE
 obtain ⟨⟨k, ps, ke, id, au, ⟨np, ns, nt, nd, ⟨⟩⟩, de, ss, da, ⟨⟩⟩, ⟨⟩⟩ := x
 obtain ⟨a1, a2, a3, a4, a5⟩ : IsAw k np ns nt nd := hx
 clear hl
 cbv
 (repeat' (first | ((with_reducible refine And.intro (fun h => ?_) (fun h => ?_)) <;> (first | with_reducible exact (tf h (by assumption)).elim | with_reducible exact (tf (by assumption) h).elim | cbv)) | ((with_reducible show JoinT (fun s K => vc _ (Code.region _ _ true) s K) _ _ _ _ _ _); (with_reducible apply JoinT.mg2); (focus (cbv; (repeat' (first | ((with_reducible refine And.intro (fun h => ?_) (fun h => ?_)) <;> (first | with_reducible exact (tf h (by assumption)).elim | with_reducible exact (tf (by assumption) h).elim | cbv)) | ((with_reducible first | refine Cb.mk ?_ | refine Lz.mk ?_ | refine JoinT.left ?_ | refine AllT.mk (fun x hx => ?_)); cbv) | ((with_reducible refine Ob.mk (fun _ => ?_) ?_); rotate_left 1) | (with_reducible first | refine Mg.mk (Exists.intro ?_ (And.intro ?_ ?_)) | rfl | refine Fin.mk ?_ | exact True.intro | refine And.intro ?_ ?_))); (all_goals (try (have du : Unit := (); have dv : Unit := (); first | exact Goes.self (Ex2.mk ⟨dv, du, trivial, trivial, rfl⟩) | exact Goes.self (Ex2.mk ⟨x, du, hx, trivial, rfl⟩) | (rename_i xa hxa; exact Goes.self (Ex2.mk ⟨xa, x, hxa, hx, rfl⟩))))); (all_goals (fail_if_success (with_reducible first | show Goes _ _ _ _ | show (∃ _, unr _ _ _ _ _ _))))))) | ((with_reducible first | refine Cb.mk ?_ | refine Lz.mk ?_ | refine JoinT.left ?_ | refine AllT.mk (fun x hx => ?_)); cbv) | ((with_reducible refine Ob.mk (fun _ => ?_) ?_); rotate_left 1) | (with_reducible first | refine Mg.mk (Exists.intro ?_ (And.intro ?_ ?_)) | rfl | refine Fin.mk ?_ | exact True.intro | refine And.intro ?_ ?_)))
 all_goals first | (with_reducible show (∃ _, unr _ _ _ _ _ _); skip) | (with_reducible show UnrI _ _ _ _ _; skip) | (with_reducible show Goes _ _ _ _; skip) | (with_reducible show JoinT _ _ _ _ _ _ _; skip) | (first | ((try dsimp only [Shp.D, Shp.Ds, Shp.dflt] at *); simp only [vem, veq, ne_eq, cmpI, arI, dvI, shI, SV.den, obLt, elemAt, obApp, partL, obPart, lowD, highD, mxOk, convL_self, zerosB, List.length_replicate, vln] at *; (try dsimp only [Shp.D, Shp.Ds, Shp.dflt, Shp.dflts] at *); done) | ((try dsimp only [Shp.D, Shp.Ds, Shp.dflt] at *); simp only [vem, veq, ne_eq, cmpI, arI, dvI, shI, SV.den, obLt, elemAt, obApp, partL, obPart, lowD, highD, mxOk, convL_self, zerosB, List.length_replicate, vln] at *; (try dsimp only [Shp.D, Shp.Ds, Shp.dflt, Shp.dflts] at *); omega) | (exfalso; ((try dsimp only [Shp.D, Shp.Ds, Shp.dflt] at *); simp only [vem, veq, ne_eq, cmpI, arI, dvI, shI, SV.den, obLt, elemAt, obApp, partL, obPart, lowD, highD, mxOk, convL_self, zerosB, List.length_replicate, vln] at *; (try dsimp only [Shp.D, Shp.Ds, Shp.dflt, Shp.dflts] at *)); omega) | (try ((try dsimp only [Shp.D, Shp.Ds, Shp.dflt] at *); simp only [vem, veq, ne_eq, cmpI, arI, dvI, shI, SV.den, obLt, elemAt, obApp, partL, obPart, lowD, highD, mxOk, convL_self, zerosB, List.length_replicate, vln] at *; (try dsimp only [Shp.D, Shp.Ds, Shp.dflt, Shp.dflts] at *))))
 all_goals first
  | (exfalso; omega)
  | (rw [a2, a3, a4]; decide +kernel)
  | (have hz : cktF np (ns.length : Int) = 0 := by rw [a2, a3]; decide
     rw [hz] at hx
     exact absurd hx.1 h)
def aw6C_t : SpecT := nd0 21 (lf0 20 (bldSp)) (lf0 21 (eqSp))
def aw6C : Cx := ⟨tt, qt, bt, st, aw6C_t, 0, 1000000000000000, fun _ => none, false, CxE.no, []⟩
theorem aw6C_si {E : Env} (h : E.ok) : SpecsOk Try.prog E (CxE.no) aw6C_t (fun _ => none) := ⟨(nd0_ok (lf0_ok (.inl (bld_sp h))) (lf0_ok (.inl (reql_sp h)))), noI_ok _ _ _⟩
theorem aw6C_x {E : Env} (h : E.ok) : CxEOk Try.prog E (CxE.no) := CxE.no_ok _ _
theorem aw6C_cx (E : Env) (h : E.ok) (h1 : E.lo = 0) (h2 : E.hi = 1000000000000000) : Cx.ok aw6C Try.prog E := ⟨tt_ok, qt_ok, bt_ok, aw6C_si h, h, h1, h2, mixed_ok, aw6C_x h⟩
theorem aw6C_from (lo hi : Nat) (E : Env) (h : E.ok) (h1 : E.lo = lo) (h2 : E.hi = hi) : Cx.ok (Cx.from aw6C lo hi) Try.prog E := ⟨tt_ok, qt_ok, bt_ok, aw6C_si h, h, h1, h2, mixed_ok, aw6C_x h⟩
theorem aw_eq {l : List UInt8} {c : Bool} {A B P Q : Prop} (h1 : (A ∧ l = [0, 0, 64, 4] ∧ B) ∧ P) (hx : c = decide (l = [toB 0, toB 0, toB 64, toB 4]) ∧ Q) : c = true := by
 rw [hx.1, h1.1.2.1]
 decide
abbrev aw6Sp : Spec := fnSpec [] [.bool] [] (fun _ => True) fun _ y => y.1 = true
theorem aw6_fn : hasFn Try.prog 10 := ⟨_, Try.func10, by rfl, by rfl⟩
theorem aw6_sp {E : Env} (hE : E.ok) : SpecOk Try.prog E 10 aw6Sp := by
 refine spec_of_vc (C := aw6C) aw6_fn Try.func10 (by kernel_rfl) aw6C_cx (fun x hl hx => ?_) hE
 obtain ⟨⟩ := x
 cbv
 (repeat' (first | ((with_reducible refine And.intro (fun h => ?_) (fun h => ?_)) <;> (first | with_reducible exact (tf h (by assumption)).elim | with_reducible exact (tf (by assumption) h).elim | cbv)) | ((with_reducible show JoinT (fun s K => vc _ (Code.region _ _ true) s K) _ _ _ _ _ _); (with_reducible apply JoinT.mg2); (focus (cbv; (repeat' (first | ((with_reducible refine And.intro (fun h => ?_) (fun h => ?_)) <;> (first | with_reducible exact (tf h (by assumption)).elim | with_reducible exact (tf (by assumption) h).elim | cbv)) | ((with_reducible first | refine Cb.mk ?_ | refine Lz.mk ?_ | refine JoinT.left ?_ | refine AllT.mk (fun x hx => ?_)); cbv) | ((with_reducible refine Ob.mk (fun _ => ?_) ?_); rotate_left 1) | (with_reducible first | refine Mg.mk (Exists.intro ?_ (And.intro ?_ ?_)) | rfl | refine Fin.mk ?_ | exact True.intro | refine And.intro ?_ ?_))); (all_goals (try (have du : Unit := (); have dv : Unit := (); first | exact Goes.self (Ex2.mk ⟨dv, du, trivial, trivial, rfl⟩) | exact Goes.self (Ex2.mk ⟨x, du, hx, trivial, rfl⟩) | (rename_i xa hxa; exact Goes.self (Ex2.mk ⟨xa, x, hxa, hx, rfl⟩))))); (all_goals (fail_if_success (with_reducible first | show Goes _ _ _ _ | show (∃ _, unr _ _ _ _ _ _))))))) | ((with_reducible first | refine Cb.mk ?_ | refine Lz.mk ?_ | refine JoinT.left ?_ | refine AllT.mk (fun x hx => ?_)); cbv) | ((with_reducible refine Ob.mk (fun _ => ?_) ?_); rotate_left 1) | (with_reducible first | refine Mg.mk (Exists.intro ?_ (And.intro ?_ ?_)) | rfl | refine Fin.mk ?_ | exact True.intro | refine And.intro ?_ ?_)))
 all_goals first | (with_reducible show (∃ _, unr _ _ _ _ _ _); skip) | (with_reducible show UnrI _ _ _ _ _; skip) | (with_reducible show Goes _ _ _ _; skip) | (with_reducible show JoinT _ _ _ _ _ _ _; skip) | (first | ((try dsimp only [Shp.D, Shp.Ds, Shp.dflt] at *); simp only [vem, veq, ne_eq, cmpI, arI, dvI, shI, SV.den, obLt, elemAt, obApp, partL, obPart, lowD, highD, mxOk, convL_self, zerosB, List.length_replicate, vln] at *; (try dsimp only [Shp.D, Shp.Ds, Shp.dflt, Shp.dflts] at *); done) | ((try dsimp only [Shp.D, Shp.Ds, Shp.dflt] at *); simp only [vem, veq, ne_eq, cmpI, arI, dvI, shI, SV.den, obLt, elemAt, obApp, partL, obPart, lowD, highD, mxOk, convL_self, zerosB, List.length_replicate, vln] at *; (try dsimp only [Shp.D, Shp.Ds, Shp.dflt, Shp.dflts] at *); omega) | (((try dsimp only [Shp.D, Shp.Ds, Shp.dflt] at *); simp only [vem, veq, ne_eq, cmpI, arI, dvI, shI, SV.den, obLt, elemAt, obApp, partL, obPart, lowD, highD, mxOk, convL_self, zerosB, List.length_replicate, vln] at *; (try dsimp only [Shp.D, Shp.Ds, Shp.dflt, Shp.dflts] at *)); exact aw_eq (by assumption) hx) | (((try dsimp only [Shp.D, Shp.Ds, Shp.dflt] at *); simp only [vem, veq, ne_eq, cmpI, arI, dvI, shI, SV.den, obLt, elemAt, obApp, partL, obPart, lowD, highD, mxOk, convL_self, zerosB, List.length_replicate, vln] at *; (try dsimp only [Shp.D, Shp.Ds, Shp.dflt, Shp.dflts] at *)); exact ⟨rfl, rfl, rfl, rfl, rfl⟩) | (((try dsimp only [Shp.D, Shp.Ds, Shp.dflt] at *); simp only [vem, veq, ne_eq, cmpI, arI, dvI, shI, SV.den, obLt, elemAt, obApp, partL, obPart, lowD, highD, mxOk, convL_self, zerosB, List.length_replicate, vln] at *; (try dsimp only [Shp.D, Shp.Ds, Shp.dflt, Shp.dflts] at *)); simp_all; done) | (try ((try dsimp only [Shp.D, Shp.Ds, Shp.dflt] at *); simp only [vem, veq, ne_eq, cmpI, arI, dvI, shI, SV.den, obLt, elemAt, obApp, partL, obPart, lowD, highD, mxOk, convL_self, zerosB, List.length_replicate, vln] at *; (try dsimp only [Shp.D, Shp.Ds, Shp.dflt, Shp.dflts] at *))))
theorem mod_fn : hasFn Try.prog 11 := ⟨_, Try.func11, by rfl, by rfl⟩
abbrev modSp : Spec := fnSpec [.int .i64, .int .i64] [.int .i64] [] (fun (x : Shp.Ds [.int .i64, .int .i64]) => x.2.1 = 300) fun (x : Shp.Ds [.int .i64, .int .i64]) (y : Shp.Ds [.int .i64]) => 0 ≤ y.1 ∧ y.1 < 300
theorem tmod300 (v : Int) : (0 ≤ v ∧ v.tmod 300 = v % 300) ∨ (v < 0 ∧ v.tmod 300 = -((-v) % 300)) := by
 rcases (by omega : 0 ≤ v ∨ v < 0) with h | h
 ·exact .inl ⟨h, Int.tmod_eq_emod_of_nonneg h⟩
 ·refine .inr ⟨h, ?_⟩
  rw [← Int.tmod_eq_emod_of_nonneg (show 0 ≤ -v by omega), Int.neg_tmod, Int.neg_neg]
theorem mod_sp {E : Env} (hE : E.ok) : SpecOk Try.prog E 11 modSp := by
 refine spec_of_vc (C := noC) mod_fn Try.func11 (by kernel_rfl) noC_cx (fun x hl hx => ?_) hE
 obtain ⟨v, m, ⟨⟩⟩ := x
 have hm : m = 300 := hx
 subst hm
 have ht := tmod300 v
 cbv
 (repeat' (first | ((with_reducible refine And.intro (fun h => ?_) (fun h => ?_)) <;> (first | with_reducible exact (tf h (by assumption)).elim | with_reducible exact (tf (by assumption) h).elim | cbv)) | ((with_reducible show JoinT (fun s K => vc _ (Code.region _ _ true) s K) _ _ _ _ _ _); (with_reducible apply JoinT.mg2); (focus (cbv; (repeat' (first | ((with_reducible refine And.intro (fun h => ?_) (fun h => ?_)) <;> (first | with_reducible exact (tf h (by assumption)).elim | with_reducible exact (tf (by assumption) h).elim | cbv)) | ((with_reducible first | refine Cb.mk ?_ | refine Lz.mk ?_ | refine JoinT.left ?_ | refine AllT.mk (fun x hx => ?_)); cbv) | ((with_reducible refine Ob.mk (fun _ => ?_) ?_); rotate_left 1) | (with_reducible first | refine Mg.mk (Exists.intro ?_ (And.intro ?_ ?_)) | rfl | refine Fin.mk ?_ | exact True.intro | refine And.intro ?_ ?_))); (all_goals (try (have du : Unit := (); have dv : Unit := (); first | exact Goes.self (Ex2.mk ⟨dv, du, trivial, trivial, rfl⟩) | exact Goes.self (Ex2.mk ⟨x, du, hx, trivial, rfl⟩) | (rename_i xa hxa; exact Goes.self (Ex2.mk ⟨xa, x, hxa, hx, rfl⟩))))); (all_goals (fail_if_success (with_reducible first | show Goes _ _ _ _ | show (∃ _, unr _ _ _ _ _ _))))))) | ((with_reducible first | refine Cb.mk ?_ | refine Lz.mk ?_ | refine JoinT.left ?_ | refine AllT.mk (fun x hx => ?_)); cbv) | ((with_reducible refine Ob.mk (fun _ => ?_) ?_); rotate_left 1) | (with_reducible first | refine Mg.mk (Exists.intro ?_ (And.intro ?_ ?_)) | rfl | refine Fin.mk ?_ | exact True.intro | refine And.intro ?_ ?_)))
 all_goals first | (with_reducible show (∃ _, unr _ _ _ _ _ _); skip) | (with_reducible show UnrI _ _ _ _ _; skip) | (with_reducible show Goes _ _ _ _; skip) | (with_reducible show JoinT _ _ _ _ _ _ _; skip) | (first | ((try dsimp only [Shp.D, Shp.Ds, Shp.dflt] at *); simp only [vem, veq, ne_eq, cmpI, arI, dvI, shI, SV.den, obLt, elemAt, obApp, partL, obPart, lowD, highD, mxOk, convL_self, zerosB, List.length_replicate, vln] at *; (try dsimp only [Shp.D, Shp.Ds, Shp.dflt, Shp.dflts] at *); done) | ((try dsimp only [Shp.D, Shp.Ds, Shp.dflt] at *); simp only [vem, veq, ne_eq, cmpI, arI, dvI, shI, SV.den, obLt, elemAt, obApp, partL, obPart, lowD, highD, mxOk, convL_self, zerosB, List.length_replicate, vln] at *; (try dsimp only [Shp.D, Shp.Ds, Shp.dflt, Shp.dflts] at *); omega) | (try ((try dsimp only [Shp.D, Shp.Ds, Shp.dflt] at *); simp only [vem, veq, ne_eq, cmpI, arI, dvI, shI, SV.den, obLt, elemAt, obApp, partL, obPart, lowD, highD, mxOk, convL_self, zerosB, List.length_replicate, vln] at *; (try dsimp only [Shp.D, Shp.Ds, Shp.dflt, Shp.dflts] at *))))
theorem lim_1 {e m : Int} {A P Q : Prop} (h : ((True → e = cknF (m.toNat : Int)) ∧ A) ∧ P) (hm : (0 ≤ m ∧ m < 300) ∧ Q) : (e = 0 ∧ 16 ≤ m ∧ m ≤ 256) ∨ (e = 13 ∧ (m < 16 ∨ 256 < m)) := by
 have k := h.1.1 trivial
 unfold cknF at k
 split at k <;> omega
theorem lim_2 {e m k : Int} {A P Q : Prop} (hk : 0 ≤ k ∧ k ≤ 255) (h : (A ∧ (True → e = parI ([toB k, toB 0, toB 0, toB 0] ++ List.replicate (m.tmod 20).toNat 0))) ∧ P) (hm : (0 ≤ m ∧ m < 300) ∧ Q) :
    m.tmod 20 = m % 20 ∧ ((e = 0 ∧ ((k = 1 ∧ m % 20 = 4) ∨ (k = 5 ∧ m % 20 = 16) ∨ ((k = 2 ∨ k = 3 ∨ k = 11) ∧ 0 < m % 20))) ∨ (¬ e = 0 ∧ ¬ ((k = 1 ∧ m % 20 = 4) ∨ (k = 5 ∧ m % 20 = 16) ∨ ((k = 2 ∨ k = 3 ∨ k = 11) ∧ 0 < m % 20)))) := by
 have ht : m.tmod 20 = m % 20 := Int.tmod_eq_emod_of_nonneg hm.1.1
 refine ⟨ht, ?_⟩
 have q := h.1.2 trivial
 rw [ht] at q
 unfold parI at q
 have hb : ((toB k).toNat : Int) = k := by
  unfold toB
  rw [show (UInt8.ofNat k.toNat).toNat = k.toNat % 256 from rfl]
  omega
 rw [if_neg (by simp only [List.length_append, List.length_cons, List.length_nil, List.length_replicate]; omega)] at q
 have hg : ([toB k, toB 0, toB 0, toB 0] ++ List.replicate (m % 20).toNat (0 : UInt8)).getD 0 0 = toB k := rfl
 rw [hg, hb] at q
 simp only [List.length_append, List.length_cons, List.length_nil, List.length_replicate] at q
 rw [show ((0 + 1 + 1 + 1 + 1 + (m % 20).toNat : Nat) : Int) - 4 = m % 20 by omega] at q
 unfold ckiF at q
 (repeat' split at q) <;> omega
theorem lim_1k {G : Prop} {e m : Int} {A P Q : Prop} (h : ((True → e = cknF (m.toNat : Int)) ∧ A) ∧ P) (hm : (0 ≤ m ∧ m < 300) ∧ Q) (k : (e = 0 ∧ 16 ≤ m ∧ m ≤ 256) ∨ (e = 13 ∧ (m < 16 ∨ 256 < m)) → G) : G := k (lim_1 h hm)
theorem lim_2k {G : Prop} {e m k : Int} {A P Q : Prop} (hk : 0 ≤ k ∧ k ≤ 255) (h : (A ∧ (True → e = parI ([toB k, toB 0, toB 0, toB 0] ++ List.replicate (m.tmod 20).toNat 0))) ∧ P) (hm : (0 ≤ m ∧ m < 300) ∧ Q)
    (c : m.tmod 20 = m % 20 → ((e = 0 ∧ ((k = 1 ∧ m % 20 = 4) ∨ (k = 5 ∧ m % 20 = 16) ∨ ((k = 2 ∨ k = 3 ∨ k = 11) ∧ 0 < m % 20))) ∨ (¬ e = 0 ∧ ¬ ((k = 1 ∧ m % 20 = 4) ∨ (k = 5 ∧ m % 20 = 16) ∨ ((k = 2 ∨ k = 3 ∨ k = 11) ∧ 0 < m % 20)))) → G) : G := c (lim_2 hk h hm).1 (lim_2 hk h hm).2
theorem lim_3k {G : Prop} {m : Int} {Q : Prop} (hm : (0 ≤ m ∧ m < 300) ∧ Q) (c : m.tmod 20 = m % 20 → G) : G := c (Int.tmod_eq_emod_of_nonneg hm.1.1)
theorem bq_1 {e m : Int} : ((!(e == 0) == decide (m ≤ 256)) = true) ↔ ¬ (e = 0 ↔ m ≤ 256) := by
 by_cases h : e = 0 <;> by_cases k : m ≤ 256 <;> simp [h, k]
theorem bq_2 {e m : Int} : ((!(e == 0) == decide (m ≤ 256)) = false) ↔ (e = 0 ↔ m ≤ 256) := by
 by_cases h : e = 0 <;> by_cases k : m ≤ 256 <;> simp [h, k]
theorem bq_3 {e : Int} : ((!(e == 0) == false) = true) ↔ e = 0 := by
 by_cases h : e = 0 <;> simp [h]
theorem bq_5 {e n : Int} : ((e == 0) = decide (0 < n)) ↔ (e = 0 ↔ 0 < n) := by
 by_cases h : e = 0 <;> by_cases k : 0 < n <;> simp [h, k]
theorem bq_6 {e n : Int} : (((e == 0) == decide (0 < n)) = true) ↔ (e = 0 ↔ 0 < n) := by
 by_cases h : e = 0 <;> by_cases k : 0 < n <;> simp [h, k]
theorem bq_7 {e n : Int} : ((e == 0) = decide (n > 0)) ↔ (e = 0 ↔ 0 < n) := bq_5
theorem bq_8 {e n : Int} : (((e == 0) == decide (n > 0)) = true) ↔ (e = 0 ↔ 0 < n) := bq_6
theorem bq_4 {e : Int} : ((!(e == 0) == false) = false) ↔ ¬ e = 0 := by
 by_cases h : e = 0 <;> simp [h]
def limC_t : SpecT := nd0 11 (lf0 10 (aw6Sp)) (nd0 12 (lf0 11 (modSp)) (lf0 12 (parSp)))
def limC : Cx := ⟨tt, qt, bt, st, limC_t, 0, 1000000000000000, fun _ => none, false, CxE.no, []⟩
theorem limC_si {E : Env} (h : E.ok) : SpecsOk Try.prog E (CxE.no) limC_t (fun _ => none) := ⟨(nd0_ok (lf0_ok (.inl (aw6_sp h))) (nd0_ok (lf0_ok (.inl (mod_sp h))) (lf0_ok (.inl (par_sp h))))), noI_ok _ _ _⟩
theorem limC_x {E : Env} (h : E.ok) : CxEOk Try.prog E (CxE.no) := CxE.no_ok _ _
theorem limC_cx (E : Env) (h : E.ok) (h1 : E.lo = 0) (h2 : E.hi = 1000000000000000) : Cx.ok limC Try.prog E := ⟨tt_ok, qt_ok, bt_ok, limC_si h, h, h1, h2, mixed_ok, limC_x h⟩
theorem limC_from (lo hi : Nat) (E : Env) (h : E.ok) (h1 : E.lo = lo) (h2 : E.hi = hi) : Cx.ok (Cx.from limC lo hi) Try.prog E := ⟨tt_ok, qt_ok, bt_ok, limC_si h, h, h1, h2, mixed_ok, limC_x h⟩
abbrev limAs : List Shp := [.int .i64, .int .u8]
theorem lim_vc (x : Shp.Ds limAs) (hi : inrs limAs x) : vcLaw limC Try.f4 limAs x := by
 obtain ⟨n, kind, u⟩ := x
 have hv : 0 ≤ kind ∧ kind ≤ 255 := by
  have h : IntKind.u8.min ≤ kind ∧ kind ≤ IntKind.u8.max := hi.2.1
  rw [show IntKind.u8.min = 0 by decide, show IntKind.u8.max = 255 by decide] at h
  exact h
 clear hi
 cbv
 (repeat' (first | ((with_reducible refine And.intro (fun h => ?_) (fun h => ?_)) <;> (first | with_reducible exact (tf h (by assumption)).elim | with_reducible exact (tf (by assumption) h).elim | cbv)) | ((with_reducible show JoinT (fun s K => vc _ (Code.region _ _ true) s K) _ _ _ _ _ _); (with_reducible apply JoinT.mg2); (focus (cbv; (repeat' (first | ((with_reducible refine And.intro (fun h => ?_) (fun h => ?_)) <;> (first | with_reducible exact (tf h (by assumption)).elim | with_reducible exact (tf (by assumption) h).elim | cbv)) | ((with_reducible first | refine Cb.mk ?_ | refine Lz.mk ?_ | refine JoinT.left ?_ | refine AllT.mk (fun x hx => ?_)); cbv) | ((with_reducible refine Ob.mk (fun _ => ?_) ?_); rotate_left 1) | (with_reducible first | refine Mg.mk (Exists.intro ?_ (And.intro ?_ ?_)) | rfl | refine Fin.mk ?_ | exact True.intro | refine And.intro ?_ ?_))); (all_goals (try (have du : Unit := (); have dv : Unit := (); first | exact Goes.self (Ex2.mk ⟨dv, du, trivial, trivial, rfl⟩) | exact Goes.self (Ex2.mk ⟨x, du, hx, trivial, rfl⟩) | (rename_i xa hxa; exact Goes.self (Ex2.mk ⟨xa, x, hxa, hx, rfl⟩))))); (all_goals (fail_if_success (with_reducible first | show Goes _ _ _ _ | show (∃ _, unr _ _ _ _ _ _))))))) | ((with_reducible first | refine Cb.mk ?_ | refine Lz.mk ?_ | refine JoinT.left ?_ | refine AllT.mk (fun x hx => ?_)); cbv) | ((with_reducible refine Ob.mk (fun _ => ?_) ?_); rotate_left 1) | (with_reducible first | refine Mg.mk (Exists.intro ?_ (And.intro ?_ ?_)) | rfl | refine Fin.mk ?_ | exact True.intro | refine And.intro ?_ ?_)))
 all_goals first | (with_reducible show (∃ _, unr _ _ _ _ _ _); skip) | (with_reducible show UnrI _ _ _ _ _; skip) | (with_reducible show Goes _ _ _ _; skip) | (with_reducible show JoinT _ _ _ _ _ _ _; skip) | (first | ((try dsimp only [Shp.D, Shp.Ds, Shp.dflt] at *); simp only [vem, veq, ne_eq, cmpI, arI, dvI, shI, SV.den, obLt, elemAt, obApp, partL, obPart, lowD, highD, mxOk, convL_self, zerosB, List.length_replicate, vln] at *; (try dsimp only [Shp.D, Shp.Ds, Shp.dflt, Shp.dflts] at *); done) | ((try dsimp only [Shp.D, Shp.Ds, Shp.dflt] at *); simp only [vem, veq, ne_eq, cmpI, arI, dvI, shI, SV.den, obLt, elemAt, obApp, partL, obPart, lowD, highD, mxOk, convL_self, zerosB, List.length_replicate, vln] at *; (try dsimp only [Shp.D, Shp.Ds, Shp.dflt, Shp.dflts] at *); omega) | (((try dsimp only [Shp.D, Shp.Ds, Shp.dflt] at *); simp only [vem, veq, ne_eq, cmpI, arI, dvI, shI, SV.den, obLt, elemAt, obApp, partL, obPart, lowD, highD, mxOk, convL_self, zerosB, List.length_replicate, vln] at *; (try dsimp only [Shp.D, Shp.Ds, Shp.dflt, Shp.dflts] at *)); exact ⟨.inl rfl⟩) | (((try dsimp only [Shp.D, Shp.Ds, Shp.dflt] at *); simp only [vem, veq, ne_eq, cmpI, arI, dvI, shI, SV.den, obLt, elemAt, obApp, partL, obPart, lowD, highD, mxOk, convL_self, zerosB, List.length_replicate, vln] at *; (try dsimp only [Shp.D, Shp.Ds, Shp.dflt, Shp.dflts] at *)); exact ⟨.inr rfl⟩) | (try ((try dsimp only [Shp.D, Shp.Ds, Shp.dflt] at *); simp only [vem, veq, ne_eq, cmpI, arI, dvI, shI, SV.den, obLt, elemAt, obApp, partL, obPart, lowD, highD, mxOk, convL_self, zerosB, List.length_replicate, vln] at *; (try dsimp only [Shp.D, Shp.Ds, Shp.dflt, Shp.dflts] at *))))
 all_goals first
  | (refine lim_1k (by assumption) (by assumption) (fun e1 => ?_)
     refine lim_2k hv (by assumption) (by assumption) (fun ht e2 => ?_)
     simp only [ht, bq_1, bq_2, bq_3, bq_4, bq_5, bq_6, bq_7, bq_8] at *
     first
      | omega
      | (exfalso; omega))
  | (refine lim_1k (by assumption) (by assumption) (fun e1 => ?_)
     simp only [bq_1, bq_2, bq_3, bq_4] at *
     exfalso
     omega)
  | (refine lim_3k (by assumption) (fun ht => ?_)
     simp only [ht]
     omega)
  | (simp_all; done)
theorem law_PayloadLimits (x : Shp.Ds limAs) (w : World) (vals : List Value) (hr : ArgsRep w limAs x vals) (hi : inrs limAs x) : Calls Try.prog 4 vals.toArray w fun e w' => e = .returned (.bool true) ∧ Below w.heap.size w w' :=
 law_of_vc Try.func4 (by kernel_rfl) limC_cx hr (lim_vc x hi)
end Go.Proofs.Ytbdfijdianaghaa.V
