/- Contracts: packets are drawn; Within of negotiate. -/
import Derived.Test.YtiinlanpinanhaaVNw
import Derived.Test.YtiinlanpinanhaaVG
set_option linter.unusedVariables false
set_option linter.unusedSimpArgs false
namespace Go.Proofs.Ytiinlanpinanhaa.V
open Go.RowKit
set_option maxHeartbeats 8000000
set_option maxRecDepth 100000
abbrev pktE : Shp := .st [adrE, adrE, .int .i64, .int .i64, .int .i64]
abbrev PktT : Type := AdrT × AdrT × Int × Int × Int × Unit
def poC_t : SpecT := lf0 24 (drSpec 94 [.int .i64] [.int .i64] [] nextPre nextPost)
def poC : Cx := ⟨tt, qt, bt, st, poC_t, 0, 1000000000000000, fun _ => none, false, CxE.no⟩
theorem poC_si {E : Env} (h : E.ok) : SpecsOk Try.prog E (CxE.no) poC_t (fun _ => none) := ⟨(lf0_ok (next_sp h)), noI_ok _ _ _⟩
theorem poC_x {E : Env} (h : E.ok) : CxEOk Try.prog E (CxE.no) := CxE.no_ok _ _
theorem poC_cx (E : Env) (h : E.ok) (h1 : E.lo = 0) (h2 : E.hi = 1000000000000000) : Cx.ok poC Try.prog E := ⟨tt_ok, qt_ok, bt_ok, poC_si h, h, h1, h2, mixed_ok, poC_x h⟩
theorem poC_from (lo hi : Nat) (E : Env) (h : E.ok) (h1 : E.lo = lo) (h2 : E.hi = hi) : Cx.ok (Cx.from poC lo hi) Try.prog E := ⟨tt_ok, qt_ok, bt_ok, poC_si h, h, h1, h2, mixed_ok, poC_x h⟩
abbrev portSp : Spec := drSpec 94 [] [.int .i64] [] (fun _ => True) (fun _ y => 0 ≤ y.1 ∧ y.1 ≤ 65536)
theorem port_fn : hasFn Try.prog 58 := ⟨_, Try.func58, by rfl, by rfl⟩
theorem port_sp {E : Env} (hE : E.ok) : SpecOk Try.prog E 58 portSp := by
  refine spec_of_vcD (C := poC) port_fn Try.func58 (by kernel_rfl) poC_cx (fun x hl hx => ?_) hE
  obtain ⟨⟩ := x
  cbv
  (repeat' (first | ((with_reducible refine And.intro (fun h => ?_) (fun h => ?_)) <;> (first | with_reducible exact (tf h (by assumption)).elim | with_reducible exact (tf (by assumption) h).elim | cbv)) | ((with_reducible first | refine Cb.mk ?_ | refine Lz.mk ?_ | refine JoinT.left ?_ | refine AllT.mk (fun x hx => ?_)); cbv) | ((with_reducible refine Ob.mk (fun _ => ?_) ?_); rotate_left 1) | (with_reducible first | refine Mg.mk (Exists.intro ?_ (And.intro ?_ ?_)) | rfl | refine Fin.mk ?_ | exact True.intro | refine And.intro ?_ ?_)))
  all_goals have k := fun v h0 h1 => selI_in [0, 80, 443, 65530, 1] v 0 65530 (by decide) 5 rfl h0 h1
  all_goals first | (with_reducible show (∃ _, unr _ _ _ _ _ _); skip) | (with_reducible show Goes _ _ _ _; skip) | (with_reducible show JoinT _ _ _ _ _ _; skip) | (first | ((((try dsimp only [Shp.D, Shp.Ds, Shp.dflt] at *); simp only [vem, veq, ne_eq, cmpI, arI, dvI, shI, SV.den, obLt, elemAt, obApp, partL, obPart, lowD, highD, mxOk, convL_self, zerosB, List.length_replicate, vln] at *; (try dsimp only [Shp.D, Shp.Ds, Shp.dflt, Shp.dflts] at *)) <;> (try simp only [Shp.lims, Shp.lim, IntKind.wrap_u64, IntKind.wrap_u8] at *) <;> omega); done) | ((try dsimp only [Shp.D, Shp.Ds, Shp.dflt] at *); simp only [vem, veq, ne_eq, cmpI, arI, dvI, shI, SV.den, obLt, elemAt, obApp, partL, obPart, lowD, highD, mxOk, convL_self, zerosB, List.length_replicate, vln] at *; (try dsimp only [Shp.D, Shp.Ds, Shp.dflt, Shp.dflts] at *); have k1 := k _ (‹((0 : Int) ≤ _ ∧ _ < (5 : Int)) ∧ _›).1.1 (‹((0 : Int) ≤ _ ∧ _ < (5 : Int)) ∧ _›).1.2; have g := hx.1; omega))
abbrev pktSp : Spec := drSpec 94 [] [pktE] [] (fun _ => True) (fun _ y => (toAdr y.1.1).ok ∧ (toAdr y.1.2.1).ok)
def pkC_t : SpecT := nd0 33 (lf0 24 (drSpec 94 [.int .i64] [.int .i64] [] nextPre nextPost)) (nd0 58 (lf0 33 (drSpec 94 [.int .i64] [adrE] [] famPre adrPost)) (lf0 58 (portSp)))
def pkC : Cx := ⟨tt, qt, bt, st, pkC_t, 0, 1000000000000000, fun _ => none, false, CxE.no⟩
theorem pkC_si {E : Env} (h : E.ok) : SpecsOk Try.prog E (CxE.no) pkC_t (fun _ => none) := ⟨(nd0_ok (lf0_ok (next_sp h)) (nd0_ok (lf0_ok (adr_sp h)) (lf0_ok (port_sp h)))), noI_ok _ _ _⟩
theorem pkC_x {E : Env} (h : E.ok) : CxEOk Try.prog E (CxE.no) := CxE.no_ok _ _
theorem pkC_cx (E : Env) (h : E.ok) (h1 : E.lo = 0) (h2 : E.hi = 1000000000000000) : Cx.ok pkC Try.prog E := ⟨tt_ok, qt_ok, bt_ok, pkC_si h, h, h1, h2, mixed_ok, pkC_x h⟩
theorem pkC_from (lo hi : Nat) (E : Env) (h : E.ok) (h1 : E.lo = lo) (h2 : E.hi = hi) : Cx.ok (Cx.from pkC lo hi) Try.prog E := ⟨tt_ok, qt_ok, bt_ok, pkC_si h, h, h1, h2, mixed_ok, pkC_x h⟩
theorem pkt_fn : hasFn Try.prog 20 := ⟨_, Try.func20, by rfl, by rfl⟩
theorem pkt_sp {E : Env} (hE : E.ok) : SpecOk Try.prog E 20 pktSp := by
  refine spec_of_vcD (C := pkC) pkt_fn Try.func20 (by kernel_rfl) pkC_cx (fun x hl hx => ?_) hE
  obtain ⟨⟩ := x
  cbv
  (repeat' (first | ((with_reducible refine And.intro (fun h => ?_) (fun h => ?_)) <;> (first | with_reducible exact (tf h (by assumption)).elim | with_reducible exact (tf (by assumption) h).elim | cbv)) | ((with_reducible first | refine Cb.mk ?_ | refine Lz.mk ?_ | refine JoinT.left ?_ | refine AllT.mk (fun x hx => ?_)); cbv) | ((with_reducible refine Ob.mk (fun _ => ?_) ?_); rotate_left 1) | (with_reducible first | refine Mg.mk (Exists.intro ?_ (And.intro ?_ ?_)) | rfl | refine Fin.mk ?_ | exact True.intro | refine And.intro ?_ ?_)))
  all_goals first | (with_reducible show (∃ _, unr _ _ _ _ _ _); skip) | (with_reducible show Goes _ _ _ _; skip) | (with_reducible show JoinT _ _ _ _ _ _; skip) | (first | ((((try dsimp only [Shp.D, Shp.Ds, Shp.dflt] at *); simp only [vem, veq, ne_eq, cmpI, arI, dvI, shI, SV.den, obLt, elemAt, obApp, partL, obPart, lowD, highD, mxOk, convL_self, zerosB, List.length_replicate, vln] at *; (try dsimp only [Shp.D, Shp.Ds, Shp.dflt, Shp.dflts] at *)) <;> (try simp only [Shp.lims, Shp.lim, IntKind.wrap_u64, IntKind.wrap_u8] at *) <;> omega); done) | ((try dsimp only [Shp.D, Shp.Ds, Shp.dflt] at *); simp only [vem, veq, ne_eq, cmpI, arI, dvI, shI, SV.den, obLt, elemAt, obApp, partL, obPart, lowD, highD, mxOk, convL_self, zerosB, List.length_replicate, vln] at *; (try dsimp only [Shp.D, Shp.Ds, Shp.dflt, Shp.dflts] at *); first | exact .inl rfl | exact .inr rfl | exact .inl trivial | exact .inr trivial | exact (‹AdrF _ _ ∧ _›).1.ok))
def withinF (l r : List SelT) (p : PktT) (out : Bool) : Bool := match out with
  | true => inL l p.1 p.2.2.1 p.2.2.2.1 && inL r p.2.1 p.2.2.1 p.2.2.2.2.1
  | false => inL l p.2.1 p.2.2.1 p.2.2.2.2.1 && inL r p.1 p.2.2.1 p.2.2.2.1
abbrev wiAs : List Shp := [.sl selE, .sl selE, pktE, .bool]
def wiC_t : SpecT := lf0 78 (ctFn)
def wiC : Cx := ⟨tt, qt, bt, st, wiC_t, 0, 1000000000000000, fun _ => none, false, CxE.no⟩
theorem wiC_si {E : Env} (h : E.ok) : SpecsOk Try.prog E (CxE.no) wiC_t (fun _ => none) := ⟨(lf0_ok (ct_sp h)), noI_ok _ _ _⟩
theorem wiC_x {E : Env} (h : E.ok) : CxEOk Try.prog E (CxE.no) := CxE.no_ok _ _
theorem wiC_cx (E : Env) (h : E.ok) (h1 : E.lo = 0) (h2 : E.hi = 1000000000000000) : Cx.ok wiC Try.prog E := ⟨tt_ok, qt_ok, bt_ok, wiC_si h, h, h1, h2, mixed_ok, wiC_x h⟩
theorem wiC_from (lo hi : Nat) (E : Env) (h : E.ok) (h1 : E.lo = lo) (h2 : E.hi = hi) : Cx.ok (Cx.from wiC lo hi) Try.prog E := ⟨tt_ok, qt_ok, bt_ok, wiC_si h, h, h1, h2, mixed_ok, wiC_x h⟩
theorem wi_fn : hasFn Try.prog 39 := ⟨_, Try.func39, by rfl, by rfl⟩
abbrev withinFn : Spec := fnFn wiAs [.bool] (fun _ => True) fun x => (withinF x.1 x.2.1 x.2.2.1 x.2.2.2.1, ())
theorem wi_sp0 {E : Env} (hE : E.ok) : SpecOk Try.prog E 39 (fnSpec wiAs [.bool] [] (fun _ => True) fun x y => y.1 = withinF x.1 x.2.1 x.2.2.1 x.2.2.2.1) := by
  refine spec_of_vc (C := wiC) wi_fn Try.func39 (by kernel_rfl) wiC_cx (fun x hl hx => ?_) hE
  obtain ⟨l, r, ⟨⟨f, h, lo, u⟩, ⟨f', h', lo', u'⟩, pr, sp, tp, u1⟩, out, u2⟩ := x
  cbv
  (repeat' (first | ((with_reducible refine And.intro (fun h => ?_) (fun h => ?_)) <;> (first | with_reducible exact (tf h (by assumption)).elim | with_reducible exact (tf (by assumption) h).elim | cbv)) | ((with_reducible first | refine Cb.mk ?_ | refine Lz.mk ?_ | refine JoinT.left ?_ | refine AllT.mk (fun x hx => ?_)); cbv) | ((with_reducible refine Ob.mk (fun _ => ?_) ?_); rotate_left 1) | (with_reducible first | refine Mg.mk (Exists.intro ?_ (And.intro ?_ ?_)) | rfl | refine Fin.mk ?_ | exact True.intro | refine And.intro ?_ ?_)))
  all_goals first | (with_reducible show (∃ _, unr _ _ _ _ _ _); skip) | (with_reducible show Goes _ _ _ _; skip) | (with_reducible show JoinT _ _ _ _ _ _; skip) | (first | ((try dsimp only [Shp.D, Shp.Ds, Shp.dflt] at *); simp only [vem, veq, ne_eq, cmpI, arI, dvI, shI, SV.den, obLt, elemAt, obApp, partL, obPart, lowD, highD, mxOk, convL_self, zerosB, List.length_replicate, vln] at *; (try dsimp only [Shp.D, Shp.Ds, Shp.dflt, Shp.dflts] at *); done) | ((try dsimp only [Shp.D, Shp.Ds, Shp.dflt] at *); simp only [vem, veq, ne_eq, cmpI, arI, dvI, shI, SV.den, obLt, elemAt, obApp, partL, obPart, lowD, highD, mxOk, convL_self, zerosB, List.length_replicate, vln] at *; (try dsimp only [Shp.D, Shp.Ds, Shp.dflt, Shp.dflts] at *); simp_all [withinF]; done))
theorem wi_sp {E : Env} (hE : E.ok) : SpecOk Try.prog E 39 withinFn := fnFn_of (wi_sp0 hE) fun x y h => by rw [← h]
end Go.Proofs.Ytiinlanpinanhaa.V
