/- Contracts: boxes are drawn. -/
import Derived.Test.YtiinlanpinanhaaVNv
set_option linter.unusedVariables false
set_option linter.unusedSimpArgs false
namespace Go.Proofs.Ytiinlanpinanhaa.V
open Go.RowKit
set_option maxHeartbeats 8000000
set_option maxRecDepth 100000
/-- Ports of a box that is drawn. -/
structure PrtG (p : PrtT) : Prop where
  lo : -1 ≤ p.1
  le : p.1 ≤ p.2.1
  hi : p.2.1 ≤ 65535
theorem prtG {a b : Int} (h1 : -1 ≤ a) (h2 : a ≤ b) (h3 : b ≤ 65535) : PrtG (a, b, ()) := ⟨h1, h2, h3⟩
def nextC_t : SpecT := lf0 24 (drSpec 94 [.int .i64] [.int .i64] [] nextPre nextPost)
def nextC : Cx := ⟨tt, qt, bt, st, nextC_t, 0, 1000000000000000, fun _ => none, false, CxE.no⟩
theorem nextC_si {E : Env} (h : E.ok) : SpecsOk Try.prog E (CxE.no) nextC_t (fun _ => none) := ⟨(lf0_ok (next_sp h)), noI_ok _ _ _⟩
theorem nextC_x {E : Env} (h : E.ok) : CxEOk Try.prog E (CxE.no) := CxE.no_ok _ _
theorem nextC_cx (E : Env) (h : E.ok) (h1 : E.lo = 0) (h2 : E.hi = 1000000000000000) : Cx.ok nextC Try.prog E := ⟨tt_ok, qt_ok, bt_ok, nextC_si h, h, h1, h2, mixed_ok, nextC_x h⟩
theorem nextC_from (lo hi : Nat) (E : Env) (h : E.ok) (h1 : E.lo = lo) (h2 : E.hi = hi) : Cx.ok (Cx.from nextC lo hi) Try.prog E := ⟨tt_ok, qt_ok, bt_ok, nextC_si h, h, h1, h2, mixed_ok, nextC_x h⟩
abbrev drPrt : Spec := drSpec 94 [] [prtE] [] (fun _ => True) (fun _ y => PrtG y.1)
theorem dpo_fn : hasFn Try.prog 83 := ⟨_, Try.func83, by rfl, by rfl⟩
theorem dpo_sp {E : Env} (hE : E.ok) : SpecOk Try.prog E 83 drPrt := by
  refine spec_of_vcD (C := nextC) dpo_fn Try.func83 (by kernel_rfl) nextC_cx (fun x hl hx => ?_) hE
  obtain ⟨⟩ := x
  cbv
  (repeat' (first | ((with_reducible refine And.intro (fun h => ?_) (fun h => ?_)) <;> (first | with_reducible exact (tf h (by assumption)).elim | with_reducible exact (tf (by assumption) h).elim | cbv)) | ((with_reducible show JoinT (fun s K => vc _ (Code.region _ _ true) s K) _ _ _ _ _); (with_reducible apply JoinT.mg2); (focus (cbv; (repeat' (first | ((with_reducible refine And.intro (fun h => ?_) (fun h => ?_)) <;> (first | with_reducible exact (tf h (by assumption)).elim | with_reducible exact (tf (by assumption) h).elim | cbv)) | ((with_reducible first | refine Cb.mk ?_ | refine Lz.mk ?_ | refine JoinT.left ?_ | refine AllT.mk (fun x hx => ?_)); cbv) | ((with_reducible refine Ob.mk (fun _ => ?_) ?_); rotate_left 1) | (with_reducible first | refine Mg.mk (Exists.intro ?_ (And.intro ?_ ?_)) | rfl | refine Fin.mk ?_ | exact True.intro | refine And.intro ?_ ?_))); (all_goals (try (have du : Unit := (); have dv : Unit := (); first | exact Goes.self (Ex2.mk ⟨dv, du, trivial, trivial, rfl⟩) | exact Goes.self (Ex2.mk ⟨x, du, hx, trivial, rfl⟩) | (rename_i xa hxa; exact Goes.self (Ex2.mk ⟨xa, x, hxa, hx, rfl⟩))))); (all_goals (fail_if_success (with_reducible first | show Goes _ _ _ _ | show (∃ _, unr _ _ _ _ _ _))))))) | ((with_reducible first | refine Cb.mk ?_ | refine Lz.mk ?_ | refine JoinT.left ?_ | refine AllT.mk (fun x hx => ?_)); cbv) | ((with_reducible refine Ob.mk (fun _ => ?_) ?_); rotate_left 1) | (with_reducible first | refine Mg.mk (Exists.intro ?_ (And.intro ?_ ?_)) | rfl | refine Fin.mk ?_ | exact True.intro | refine And.intro ?_ ?_)))
  all_goals have k := fun v h0 h1 => selI_in [0, 80, 443, 65530] v 0 65530 (by decide) 4 rfl h0 h1
  all_goals first | (with_reducible show (∃ _, unr _ _ _ _ _ _); skip) | (with_reducible show Goes _ _ _ _; skip) | (with_reducible show JoinT _ _ _ _ _ _; skip) | (first | ((((try dsimp only [Shp.D, Shp.Ds, Shp.dflt] at *); simp only [vem, veq, ne_eq, cmpI, arI, dvI, shI, SV.den, obLt, elemAt, obApp, partL, obPart, lowD, highD, mxOk, convL_self, zerosB, List.length_replicate, vln] at *; (try dsimp only [Shp.D, Shp.Ds, Shp.dflt, Shp.dflts] at *)) <;> (try simp only [Shp.lims, Shp.lim, IntKind.wrap_u64, IntKind.wrap_u8] at *) <;> omega); done) | ((try dsimp only [Shp.D, Shp.Ds, Shp.dflt] at *); simp only [vem, veq, ne_eq, cmpI, arI, dvI, shI, SV.den, obLt, elemAt, obApp, partL, obPart, lowD, highD, mxOk, convL_self, zerosB, List.length_replicate, vln] at *; (try dsimp only [Shp.D, Shp.Ds, Shp.dflt, Shp.dflts] at *); exact prtG (by omega) (by omega) (by omega)) | ((try dsimp only [Shp.D, Shp.Ds, Shp.dflt] at *); simp only [vem, veq, ne_eq, cmpI, arI, dvI, shI, SV.den, obLt, elemAt, obApp, partL, obPart, lowD, highD, mxOk, convL_self, zerosB, List.length_replicate, vln] at *; (try dsimp only [Shp.D, Shp.Ds, Shp.dflt, Shp.dflts] at *); have k1 := k _ (‹((0 : Int) ≤ _ ∧ _ < (4 : Int)) ∧ _›).1.1 (‹((0 : Int) ≤ _ ∧ _ < (4 : Int)) ∧ _›).1.2; have g := hx.1; exact prtG (by omega) (by omega) (by omega)))
/-- A box that is drawn. -/
structure BoxG (b : BoxT) : Prop where
  f : ∃ f, (f = 4 ∨ f = 6) ∧ SpanP f (toAdr b.1) (toAdr b.2.1) ∧ SpanP f (toAdr b.2.2.1) (toAdr b.2.2.2.1)
  lo : 0 ≤ b.2.2.2.2.1
  lo' : b.2.2.2.2.1 ≤ 255
  hi : 0 ≤ b.2.2.2.2.2.1
  hi' : b.2.2.2.2.2.1 ≤ 255
  lp : PrtG b.2.2.2.2.2.2.1
  rp : PrtG b.2.2.2.2.2.2.2.1
theorem boxG {f p q : Int} {a b c d : AdrT} {lp rp : PrtT} (h1 : SpanP f (toAdr a) (toAdr b)) (h2 : SpanP f (toAdr c) (toAdr d)) (hf : f = 4 ∨ f = 6) (h3 : PrtG lp) (h4 : PrtG rp) (h5 : 0 ≤ p) (h6 : p ≤ 255) (h7 : 0 ≤ q) (h8 : q ≤ 255) : BoxG (a, b, c, d, p, q, lp, rp, ()) := ⟨⟨f, hf, h1, h2⟩, h5, h6, h7, h8, h3, h4⟩
abbrev drBox : Spec := drSpec 94 [] [boxE] [] (fun _ => True) (fun _ y => BoxG y.1)
def dbxC_t : SpecT := nd0 55 (lf0 24 (drSpec 94 [.int .i64] [.int .i64] [] nextPre nextPost)) (nd0 83 (lf0 55 (drSpec 94 [.int .i64] [adrE, adrE] [] famPre spanPost)) (lf0 83 (drPrt)))
def dbxC : Cx := ⟨tt, qt, bt, st, dbxC_t, 0, 1000000000000000, fun _ => none, false, CxE.no⟩
theorem dbxC_si {E : Env} (h : E.ok) : SpecsOk Try.prog E (CxE.no) dbxC_t (fun _ => none) := ⟨(nd0_ok (lf0_ok (next_sp h)) (nd0_ok (lf0_ok (span_sp h)) (lf0_ok (dpo_sp h)))), noI_ok _ _ _⟩
theorem dbxC_x {E : Env} (h : E.ok) : CxEOk Try.prog E (CxE.no) := CxE.no_ok _ _
theorem dbxC_cx (E : Env) (h : E.ok) (h1 : E.lo = 0) (h2 : E.hi = 1000000000000000) : Cx.ok dbxC Try.prog E := ⟨tt_ok, qt_ok, bt_ok, dbxC_si h, h, h1, h2, mixed_ok, dbxC_x h⟩
theorem dbxC_from (lo hi : Nat) (E : Env) (h : E.ok) (h1 : E.lo = lo) (h2 : E.hi = hi) : Cx.ok (Cx.from dbxC lo hi) Try.prog E := ⟨tt_ok, qt_ok, bt_ok, dbxC_si h, h, h1, h2, mixed_ok, dbxC_x h⟩
theorem dbx_fn : hasFn Try.prog 45 := ⟨_, Try.func45, by rfl, by rfl⟩
theorem dbx_sp {E : Env} (hE : E.ok) : SpecOk Try.prog E 45 drBox := by
  refine spec_of_vcD (C := dbxC) dbx_fn Try.func45 (by kernel_rfl) dbxC_cx (fun x hl hx => ?_) hE
  obtain ⟨⟩ := x
  cbv
  (repeat' (first | ((with_reducible refine And.intro (fun h => ?_) (fun h => ?_)) <;> (first | with_reducible exact (tf h (by assumption)).elim | with_reducible exact (tf (by assumption) h).elim | cbv)) | ((with_reducible show JoinT (fun s K => vc _ (Code.region _ _ true) s K) _ _ _ _ _); (with_reducible apply JoinT.mg2); (focus (cbv; (repeat' (first | ((with_reducible refine And.intro (fun h => ?_) (fun h => ?_)) <;> (first | with_reducible exact (tf h (by assumption)).elim | with_reducible exact (tf (by assumption) h).elim | cbv)) | ((with_reducible first | refine Cb.mk ?_ | refine Lz.mk ?_ | refine JoinT.left ?_ | refine AllT.mk (fun x hx => ?_)); cbv) | ((with_reducible refine Ob.mk (fun _ => ?_) ?_); rotate_left 1) | (with_reducible first | refine Mg.mk (Exists.intro ?_ (And.intro ?_ ?_)) | rfl | refine Fin.mk ?_ | exact True.intro | refine And.intro ?_ ?_))); (all_goals (try (have du : Unit := (); have dv : Unit := (); first | exact Goes.self (Ex2.mk ⟨dv, du, trivial, trivial, rfl⟩) | exact Goes.self (Ex2.mk ⟨x, du, hx, trivial, rfl⟩) | (rename_i xa hxa; exact Goes.self (Ex2.mk ⟨xa, x, hxa, hx, rfl⟩))))); (all_goals (fail_if_success (with_reducible first | show Goes _ _ _ _ | show (∃ _, unr _ _ _ _ _ _))))))) | ((with_reducible first | refine Cb.mk ?_ | refine Lz.mk ?_ | refine JoinT.left ?_ | refine AllT.mk (fun x hx => ?_)); cbv) | ((with_reducible refine Ob.mk (fun _ => ?_) ?_); rotate_left 1) | (with_reducible first | refine Mg.mk (Exists.intro ?_ (And.intro ?_ ?_)) | rfl | refine Fin.mk ?_ | exact True.intro | refine And.intro ?_ ?_)))
  all_goals have k := fun v h0 h1 => selI_in [0, 1, 6, 17, 58] v 0 58 (by decide) 5 rfl h0 h1
  all_goals first | (with_reducible show (∃ _, unr _ _ _ _ _ _); skip) | (with_reducible show Goes _ _ _ _; skip) | (with_reducible show JoinT _ _ _ _ _ _; skip) | (first | ((((try dsimp only [Shp.D, Shp.Ds, Shp.dflt] at *); simp only [vem, veq, ne_eq, cmpI, arI, dvI, shI, SV.den, obLt, elemAt, obApp, partL, obPart, lowD, highD, mxOk, convL_self, zerosB, List.length_replicate, vln] at *; (try dsimp only [Shp.D, Shp.Ds, Shp.dflt, Shp.dflts] at *)) <;> (try simp only [Shp.lims, Shp.lim, IntKind.wrap_u64, IntKind.wrap_u8] at *) <;> omega); done) | ((try dsimp only [Shp.D, Shp.Ds, Shp.dflt] at *); simp only [vem, veq, ne_eq, cmpI, arI, dvI, shI, SV.den, obLt, elemAt, obApp, partL, obPart, lowD, highD, mxOk, convL_self, zerosB, List.length_replicate, vln] at *; (try dsimp only [Shp.D, Shp.Ds, Shp.dflt, Shp.dflts] at *); exact .inr trivial) | ((try dsimp only [Shp.D, Shp.Ds, Shp.dflt] at *); simp only [vem, veq, ne_eq, cmpI, arI, dvI, shI, SV.den, obLt, elemAt, obApp, partL, obPart, lowD, highD, mxOk, convL_self, zerosB, List.length_replicate, vln] at *; (try dsimp only [Shp.D, Shp.Ds, Shp.dflt, Shp.dflts] at *); simp only [Shp.lims, Shp.lim, and_true] at *; omega) | ((try dsimp only [Shp.D, Shp.Ds, Shp.dflt] at *); simp only [vem, veq, ne_eq, cmpI, arI, dvI, shI, SV.den, obLt, elemAt, obApp, partL, obPart, lowD, highD, mxOk, convL_self, zerosB, List.length_replicate, vln] at *; (try dsimp only [Shp.D, Shp.Ds, Shp.dflt, Shp.dflts] at *); simp only [Shp.lims, Shp.lim, and_true] at *; refine boxG (by assumption) (by assumption) (by first | (left; assumption) | (right; rfl) | (left; rfl)) (by assumption) (by assumption) ?_ ?_ ?_ ?_ <;> first | omega | exact (k _ (by omega) (by omega)).1 | exact Int.le_trans (k _ (by omega) (by omega)).2 (by decide)))
end Go.Proofs.Ytiinlanpinanhaa.V
