/- payload: Parse of nonces and identities; Build of the example; the law PayloadLimits. -/
import Derived.Test.YtbdfijdianaghaaVMa
import Derived.Test.YtbdfijdianaghaaVL
set_option linter.unusedVariables false
set_option linter.unusedSimpArgs false
namespace Go.Proofs.Ytbdfijdianaghaa.V
open Go.RowKit
set_option maxHeartbeats 8000000
set_option maxRecDepth 100000
def parI (b : List UInt8) : Int := if b.length < 4 then 1 else ckiF ((b.getD 0 0).toNat : Int) ((b.length : Int) - 4)
theorem parI_1 {b : List UInt8} {a : Bool} {P Q : Prop} (h : ((a = false ∧ b.length < 4) ∨ (a = true ∧ P)) ∧ Q) (ha : (!a) = true) : 1 = parI b := by
 rcases h.1 with k | k
 ·unfold parI
  rw [if_pos k.2]
 ·rw [k.1] at ha
  cases ha
theorem parI_2 {b : List UInt8} {a : Bool} {f n e : Int} {Q R : Prop} (h : ((a = false ∧ b.length < 4) ∨ (a = true ∧ 4 ≤ b.length ∧ f = ((b.getD 0 0).toNat : Int) ∧ n = (b.length : Int) - 4)) ∧ Q) (ha : (!a) = false) (he : e = ckiF ((f + 9223372036854775808) % 18446744073709551616 - 9223372036854775808) n ∧ R) : e = parI b := by
 rcases h.1 with k | ⟨k1, k2, k3, k4⟩
 ·rw [k.1] at ha
  cases ha
 ·have := (b.getD 0 0).toNat_lt
  unfold parI
  rw [if_neg (by omega), he.1, k4, ← k3, show (f + 9223372036854775808) % 18446744073709551616 - 9223372036854775808 = f by omega]
structure OkK (k : Int) : Prop where
 h : k = 40 ∨ k = 35
def nonC_t : SpecT := lf0 47 (cknSp)
def nonC : Cx := ⟨tt, qt, bt, st, nonC_t, 0, 1000000000000000, fun _ => none, false, CxE.no, []⟩
theorem nonC_si {E : Env} (h : E.ok) : SpecsOk Try.prog E (CxE.no) nonC_t (fun _ => none) := ⟨(lf0_ok (.inl (ckn_sp h))), noI_ok _ _ _⟩
theorem nonC_x {E : Env} (h : E.ok) : CxEOk Try.prog E (CxE.no) := CxE.no_ok _ _
theorem nonC_cx (E : Env) (h : E.ok) (h1 : E.lo = 0) (h2 : E.hi = 1000000000000000) : Cx.ok nonC Try.prog E := ⟨tt_ok, qt_ok, bt_ok, nonC_si h, h, h1, h2, mixed_ok, nonC_x h⟩
theorem nonC_from (lo hi : Nat) (E : Env) (h : E.ok) (h1 : E.lo = lo) (h2 : E.hi = hi) : Cx.ok (Cx.from nonC lo hi) Try.prog E := ⟨tt_ok, qt_ok, bt_ok, nonC_si h, h, h1, h2, mixed_ok, nonC_x h⟩
def idyC_t : SpecT := nd0 52 (lf0 45 (ckiSp)) (lf0 52 (cutSp))
def idyC : Cx := ⟨tt, qt, bt, st, idyC_t, 0, 1000000000000000, fun _ => none, false, CxE.no, []⟩
theorem idyC_si {E : Env} (h : E.ok) : SpecsOk Try.prog E (CxE.no) idyC_t (fun _ => none) := ⟨(nd0_ok (lf0_ok (.inl (cki_sp h))) (lf0_ok (.inl (cut_sp h)))), noI_ok _ _ _⟩
theorem idyC_x {E : Env} (h : E.ok) : CxEOk Try.prog E (CxE.no) := CxE.no_ok _ _
theorem idyC_cx (E : Env) (h : E.ok) (h1 : E.lo = 0) (h2 : E.hi = 1000000000000000) : Cx.ok idyC Try.prog E := ⟨tt_ok, qt_ok, bt_ok, idyC_si h, h, h1, h2, mixed_ok, idyC_x h⟩
theorem idyC_from (lo hi : Nat) (E : Env) (h : E.ok) (h1 : E.lo = lo) (h2 : E.hi = hi) : Cx.ok (Cx.from idyC lo hi) Try.prog E := ⟨tt_ok, qt_ok, bt_ok, idyC_si h, h, h1, h2, mixed_ok, idyC_x h⟩
def parC_t : SpecT := fun _ => none
def parC_i : SpecT := nd0 34 (lf0 22 (inlSpec nonC Try.f22)) (nd0 36 (lf0 34 (inlSpec idyC Try.f34)) (lf0 36 (inlSpec nonC Try.f36)))
def parC : Cx := ⟨tt, qt, bt, st, parC_t, 0, 1000000000000000, parC_i, true, CxE.no, []⟩
theorem parC_si {E : Env} (h : E.ok) : SpecsOk Try.prog E (CxE.no) parC_t (parC_i) := ⟨(fun t f h => by cases h), (nd0_ok (lf0_ok (inl_ok h nonC_from Try.func22 ⟨by rfl, by rfl⟩ (by kernel_rfl))) (nd0_ok (lf0_ok (inl_ok h idyC_from Try.func34 ⟨by rfl, by rfl⟩ (by kernel_rfl))) (lf0_ok (inl_ok h nonC_from Try.func36 ⟨by rfl, by rfl⟩ (by kernel_rfl)))))⟩
theorem parC_x {E : Env} (h : E.ok) : CxEOk Try.prog E (CxE.no) := CxE.no_ok _ _
theorem parC_cx (E : Env) (h : E.ok) (h1 : E.lo = 0) (h2 : E.hi = 1000000000000000) : Cx.ok parC Try.prog E := ⟨tt_ok, qt_ok, bt_ok, parC_si h, h, h1, h2, mixed_ok, parC_x h⟩
theorem parC_from (lo hi : Nat) (E : Env) (h : E.ok) (h1 : E.lo = lo) (h2 : E.hi = hi) : Cx.ok (Cx.from parC lo hi) Try.prog E := ⟨tt_ok, qt_ok, bt_ok, parC_si h, h, h1, h2, mixed_ok, parC_x h⟩
abbrev parSp : Spec := fnSpec [rawE] [plE, .int .i64] [89, 5, 5, 5, 5, 5, 22, 96, 5] (fun (x : Shp.Ds [rawE]) => OkK x.1.1) fun (x : Shp.Ds [rawE]) (y : Shp.Ds [plE, .int .i64]) => (x.1.1 = 40 → y.2.1 = cknF x.1.2.2.1.length) ∧ (x.1.1 = 35 → y.2.1 = parI x.1.2.2.1)
theorem par_fn : hasFn Try.prog 12 := ⟨_, Try.func12, by rfl, by rfl⟩
theorem par_sp {E : Env} (hE : E.ok) : SpecOk Try.prog E 12 parSp := by
 refine spec_of_vc (C := parC) par_fn Try.func12 (by kernel_rfl) parC_cx (fun x hl hx => ?_) hE
 obtain ⟨⟨k, c, b, ⟨⟩⟩, ⟨⟩⟩ := x
 have hk : k = 40 ∨ k = 35 := hx.h
 have hlen : (b.length : Int) ≤ 140737488355328 := by simp only [Shp.lims, Shp.lim] at hl; omega
 cbv
 (repeat' (first | ((with_reducible refine And.intro (fun h => ?_) (fun h => ?_)) <;> (first | with_reducible exact (tf h (by assumption)).elim | with_reducible exact (tf (by assumption) h).elim | cbv)) | ((with_reducible show JoinT (fun s K => vc _ (Code.region _ _ true) s K) _ _ _ _ _ _); (with_reducible apply JoinT.mg2); (focus (cbv; (repeat' (first | ((with_reducible refine And.intro (fun h => ?_) (fun h => ?_)) <;> (first | with_reducible exact (tf h (by assumption)).elim | with_reducible exact (tf (by assumption) h).elim | cbv)) | ((with_reducible first | refine Cb.mk ?_ | refine Lz.mk ?_ | refine JoinT.left ?_ | refine AllT.mk (fun x hx => ?_)); cbv) | ((with_reducible refine Ob.mk (fun _ => ?_) ?_); rotate_left 1) | (with_reducible first | refine Mg.mk (Exists.intro ?_ (And.intro ?_ ?_)) | rfl | refine Fin.mk ?_ | exact True.intro | refine And.intro ?_ ?_))); (all_goals (try (have du : Unit := (); have dv : Unit := (); first | exact Goes.self (Ex2.mk ⟨dv, du, trivial, trivial, rfl⟩) | exact Goes.self (Ex2.mk ⟨x, du, hx, trivial, rfl⟩) | (rename_i xa hxa; exact Goes.self (Ex2.mk ⟨xa, x, hxa, hx, rfl⟩))))); (all_goals (fail_if_success (with_reducible first | show Goes _ _ _ _ | show (∃ _, unr _ _ _ _ _ _))))))) | ((with_reducible first | refine Cb.mk ?_ | refine Lz.mk ?_ | refine JoinT.left ?_ | refine AllT.mk (fun x hx => ?_)); cbv) | ((with_reducible refine Ob.mk (fun _ => ?_) ?_); rotate_left 1) | (with_reducible first | refine Mg.mk (Exists.intro ?_ (And.intro ?_ ?_)) | rfl | refine Fin.mk ?_ | exact True.intro | refine And.intro ?_ ?_)))
 all_goals first | (with_reducible show (∃ _, unr _ _ _ _ _ _); skip) | (with_reducible show UnrI _ _ _ _ _; skip) | (with_reducible show Goes _ _ _ _; skip) | (with_reducible show JoinT _ _ _ _ _ _ _; skip) | (first | ((try dsimp only [Shp.D, Shp.Ds, Shp.dflt] at *); simp only [vem, veq, ne_eq, cmpI, arI, dvI, shI, SV.den, obLt, elemAt, obApp, partL, obPart, lowD, highD, mxOk, convL_self, zerosB, List.length_replicate, vln] at *; (try dsimp only [Shp.D, Shp.Ds, Shp.dflt, Shp.dflts] at *); done) | ((try dsimp only [Shp.D, Shp.Ds, Shp.dflt] at *); simp only [vem, veq, ne_eq, cmpI, arI, dvI, shI, SV.den, obLt, elemAt, obApp, partL, obPart, lowD, highD, mxOk, convL_self, zerosB, List.length_replicate, vln] at *; (try dsimp only [Shp.D, Shp.Ds, Shp.dflt, Shp.dflts] at *); omega) | (((try dsimp only [Shp.D, Shp.Ds, Shp.dflt] at *); simp only [vem, veq, ne_eq, cmpI, arI, dvI, shI, SV.den, obLt, elemAt, obApp, partL, obPart, lowD, highD, mxOk, convL_self, zerosB, List.length_replicate, vln] at *; (try dsimp only [Shp.D, Shp.Ds, Shp.dflt, Shp.dflts] at *)); intro hk5; exact parI_1 hx h) | (((try dsimp only [Shp.D, Shp.Ds, Shp.dflt] at *); simp only [vem, veq, ne_eq, cmpI, arI, dvI, shI, SV.den, obLt, elemAt, obApp, partL, obPart, lowD, highD, mxOk, convL_self, zerosB, List.length_replicate, vln] at *; (try dsimp only [Shp.D, Shp.Ds, Shp.dflt, Shp.dflts] at *)); intro hk5; exact parI_2 (by assumption) (by assumption) hx) | (((try dsimp only [Shp.D, Shp.Ds, Shp.dflt] at *); simp only [vem, veq, ne_eq, cmpI, arI, dvI, shI, SV.den, obLt, elemAt, obApp, partL, obPart, lowD, highD, mxOk, convL_self, zerosB, List.length_replicate, vln] at *; (try dsimp only [Shp.D, Shp.Ds, Shp.dflt, Shp.dflts] at *)); intro hk5; exact h.symm.trans (parI_2 (by assumption) (by assumption) hx)) | (try ((try dsimp only [Shp.D, Shp.Ds, Shp.dflt] at *); simp only [vem, veq, ne_eq, cmpI, arI, dvI, shI, SV.den, obLt, elemAt, obApp, partL, obPart, lowD, highD, mxOk, convL_self, zerosB, List.length_replicate, vln] at *; (try dsimp only [Shp.D, Shp.Ds, Shp.dflt, Shp.dflts] at *))))
end Go.Proofs.Ytbdfijdianaghaa.V
