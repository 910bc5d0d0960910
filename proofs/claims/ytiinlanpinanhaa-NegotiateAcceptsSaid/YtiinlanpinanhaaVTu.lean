/- Contracts: a chosen proposal is accepted (negotiate). -/
import Derived.Test.YtiinlanpinanhaaVTs
set_option linter.unusedVariables false
set_option linter.unusedSimpArgs false
namespace Go.Proofs.Ytiinlanpinanhaa.V
open Go.RowKit
set_option maxHeartbeats 8000000
set_option maxRecDepth 100000
abbrev eqsSp : Spec := fnSpec [.sl .byte, .sl .byte] [.bool] [] (fun _ => True) fun x y => x.1 = x.2.1 → y.1 = true
def eqsC_t : SpecT := fun _ => none
def eqsC : Cx := ⟨tt, qt, bt, st, eqsC_t, 0, 1000000000000000, fun _ => none, false, CxE.no⟩
theorem eqsC_si {E : Env} (h : E.ok) : SpecsOk Try.prog E (CxE.no) eqsC_t (fun _ => none) := ⟨(fun t f h => by cases h), noI_ok _ _ _⟩
theorem eqsC_x {E : Env} (h : E.ok) : CxEOk Try.prog E (CxE.no) := CxE.no_ok _ _
theorem eqsC_cx (E : Env) (h : E.ok) (h1 : E.lo = 0) (h2 : E.hi = 1000000000000000) : Cx.ok eqsC Try.prog E := ⟨tt_ok, qt_ok, bt_ok, eqsC_si h, h, h1, h2, mixed_ok, eqsC_x h⟩
theorem eqsC_from (lo hi : Nat) (E : Env) (h : E.ok) (h1 : E.lo = lo) (h2 : E.hi = hi) : Cx.ok (Cx.from eqsC lo hi) Try.prog E := ⟨tt_ok, qt_ok, bt_ok, eqsC_si h, h, h1, h2, mixed_ok, eqsC_x h⟩
theorem eqs_fn : hasFn Try.prog 64 := ⟨_, Try.func64, by rfl, by rfl⟩
theorem eqs_sp {E : Env} (hE : E.ok) : SpecOk Try.prog E 64 eqsSp := by
  refine spec_of_vc (C := eqsC) eqs_fn Try.func64 (by kernel_rfl) eqsC_cx (fun x hl hx => ?_) hE
  obtain ⟨l, m, u⟩ := x
  simp only [Shp.lims, Shp.lim] at hl
  have ha := hl.1.1
  have hb := hl.2.1.1
  clear hl
  cbv
  (repeat' (first | ((with_reducible refine And.intro (fun h => ?_) (fun h => ?_)) <;> (first | with_reducible exact (tf h (by assumption)).elim | with_reducible exact (tf (by assumption) h).elim | cbv)) | ((with_reducible show JoinT (fun s K => vc _ (Code.region _ _ true) s K) _ _ _ _ _); (with_reducible apply JoinT.mg2); (focus (cbv; (repeat' (first | ((with_reducible refine And.intro (fun h => ?_) (fun h => ?_)) <;> (first | with_reducible exact (tf h (by assumption)).elim | with_reducible exact (tf (by assumption) h).elim | cbv)) | ((with_reducible first | refine Cb.mk ?_ | refine Lz.mk ?_ | refine JoinT.left ?_ | refine AllT.mk (fun x hx => ?_)); cbv) | ((with_reducible refine Ob.mk (fun _ => ?_) ?_); rotate_left 1) | (with_reducible first | refine Mg.mk (Exists.intro ?_ (And.intro ?_ ?_)) | rfl | refine Fin.mk ?_ | exact True.intro | refine And.intro ?_ ?_))); (all_goals (try (have du : Unit := (); have dv : Unit := (); first | exact Goes.self (Ex2.mk ⟨dv, du, trivial, trivial, rfl⟩) | exact Goes.self (Ex2.mk ⟨x, du, hx, trivial, rfl⟩) | (rename_i xa hxa; exact Goes.self (Ex2.mk ⟨xa, x, hxa, hx, rfl⟩))))); (all_goals (fail_if_success (with_reducible first | show Goes _ _ _ _ | show (∃ _, unr _ _ _ _ _ _))))))) | ((with_reducible first | refine Cb.mk ?_ | refine Lz.mk ?_ | refine JoinT.left ?_ | refine AllT.mk (fun x hx => ?_)); cbv) | ((with_reducible refine Ob.mk (fun _ => ?_) ?_); rotate_left 1) | (with_reducible first | refine Mg.mk (Exists.intro ?_ (And.intro ?_ ?_)) | rfl | refine Fin.mk ?_ | exact True.intro | refine And.intro ?_ ?_)))
  all_goals first | (with_reducible show (∃ _, unr _ _ _ _ _ _); skip) | (with_reducible show Goes _ _ _ _; skip) | (with_reducible show JoinT _ _ _ _ _ _; skip) | (first | ((((try dsimp only [Shp.D, Shp.Ds, Shp.dflt] at *); simp only [vem, veq, ne_eq, cmpI, arI, dvI, shI, SV.den, obLt, elemAt, obApp, partL, obPart, lowD, highD, mxOk, convL_self, zerosB, List.length_replicate, vln] at *; (try dsimp only [Shp.D, Shp.Ds, Shp.dflt, Shp.dflts] at *)) <;> (try simp only [Shp.lims, Shp.lim, IntKind.wrap_u64, IntKind.wrap_u8] at *) <;> omega); done) | ((try dsimp only [Shp.D, Shp.Ds, Shp.dflt] at *); simp only [vem, veq, ne_eq, cmpI, arI, dvI, shI, SV.den, obLt, elemAt, obApp, partL, obPart, lowD, highD, mxOk, convL_self, zerosB, List.length_replicate, vln] at *; (try dsimp only [Shp.D, Shp.Ds, Shp.dflt, Shp.dflts] at *); intro h0; subst h0; exact absurd rfl h))
  with_reducible refine loop_hv [] (5 :: rangeN 14 12) [] [] (fun z b t y => 0 ≤ z 13 ∧ z 13 ≤ (l.length : Int)) (fun z b t y => ((l.length : Int) - z 13).toNat) (by cbv) (by cbv) ?_ ?_ (fun z1 b1 t1 u1 y1 R1 hP1 hR1 => ?_)
  · refine EndOk.mk (by cbv) (by cbv) (by cbv; repeat' (first | exact True.intro | exact rfl | with_reducible refine And.intro ?_ ?_)) (by cbv; repeat' (first | exact True.intro | exact rfl | with_reducible refine And.intro ?_ ?_)) (by cbv; repeat' (first | exact True.intro | exact rfl | with_reducible refine And.intro ?_ ?_))
  · intro zq bq tq yq hUq
    have q13 := hUq.z 13
    cbv at q13
    replace q13 := q13.eq
    simp only [atI, vem, veq, ne_eq, cmpI, arI, dvI, shI, SV.den] at q13
    clear hUq
    try dsimp only [Shp.D, Shp.Ds, Shp.dflt] at *
    try simp only [vem, veq, ne_eq, cmpI, arI, dvI, shI, SV.den, convL_self] at *
    rw [← q13]
    exact ⟨by omega, by omega⟩
  obtain ⟨p1, p2⟩ := hP1
  cbv
  (repeat' (first | ((with_reducible refine And.intro (fun h => ?_) (fun h => ?_)) <;> (first | with_reducible exact (tf h (by assumption)).elim | with_reducible exact (tf (by assumption) h).elim | cbv)) | ((with_reducible show JoinT (fun s K => vc _ (Code.region _ _ true) s K) _ _ _ _ _); (with_reducible apply JoinT.mg2); (focus (cbv; (repeat' (first | ((with_reducible refine And.intro (fun h => ?_) (fun h => ?_)) <;> (first | with_reducible exact (tf h (by assumption)).elim | with_reducible exact (tf (by assumption) h).elim | cbv)) | ((with_reducible first | refine Cb.mk ?_ | refine Lz.mk ?_ | refine JoinT.left ?_ | refine AllT.mk (fun x hx => ?_)); cbv) | ((with_reducible refine Ob.mk (fun _ => ?_) ?_); rotate_left 1) | (with_reducible first | refine Mg.mk (Exists.intro ?_ (And.intro ?_ ?_)) | rfl | refine Fin.mk ?_ | exact True.intro | refine And.intro ?_ ?_))); (all_goals (try (have du : Unit := (); have dv : Unit := (); first | exact Goes.self (Ex2.mk ⟨dv, du, trivial, trivial, rfl⟩) | exact Goes.self (Ex2.mk ⟨x, du, hx, trivial, rfl⟩) | (rename_i xa hxa; exact Goes.self (Ex2.mk ⟨xa, x, hxa, hx, rfl⟩))))); (all_goals (fail_if_success (with_reducible first | show Goes _ _ _ _ | show (∃ _, unr _ _ _ _ _ _))))))) | ((with_reducible first | refine Cb.mk ?_ | refine Lz.mk ?_ | refine JoinT.left ?_ | refine AllT.mk (fun x hx => ?_)); cbv) | ((with_reducible refine Ob.mk (fun _ => ?_) ?_); rotate_left 1) | (with_reducible first | refine Mg.mk (Exists.intro ?_ (And.intro ?_ ?_)) | rfl | refine Fin.mk ?_ | exact True.intro | refine And.intro ?_ ?_)))
  all_goals first | (with_reducible show Goes _ _ _ _; skip) | (clear hR1)
  all_goals first | (with_reducible show (∃ _, unr _ _ _ _ _ _); skip) | (with_reducible show Goes _ _ _ _; skip) | (with_reducible show JoinT _ _ _ _ _ _; skip) | (first | ((((try dsimp only [Shp.D, Shp.Ds, Shp.dflt] at *); simp only [vem, veq, ne_eq, cmpI, arI, dvI, shI, SV.den, obLt, elemAt, obApp, partL, obPart, lowD, highD, mxOk, convL_self, zerosB, List.length_replicate, vln] at *; (try dsimp only [Shp.D, Shp.Ds, Shp.dflt, Shp.dflts] at *)) <;> (try simp only [Shp.lims, Shp.lim, IntKind.wrap_u64, IntKind.wrap_u8] at *) <;> omega); done) | ((try dsimp only [Shp.D, Shp.Ds, Shp.dflt] at *); simp only [vem, veq, ne_eq, cmpI, arI, dvI, shI, SV.den, obLt, elemAt, obApp, partL, obPart, lowD, highD, mxOk, convL_self, zerosB, List.length_replicate, vln] at *; (try dsimp only [Shp.D, Shp.Ds, Shp.dflt, Shp.dflts] at *); intro h0; subst h0; simp_all; done) | (try ((try dsimp only [Shp.D, Shp.Ds, Shp.dflt] at *); simp only [vem, veq, ne_eq, cmpI, arI, dvI, shI, SV.den, obLt, elemAt, obApp, partL, obPart, lowD, highD, mxOk, convL_self, zerosB, List.length_replicate, vln] at *; (try dsimp only [Shp.D, Shp.Ds, Shp.dflt, Shp.dflts] at *))))
  with_reducible refine hR1 _ ?_ (fun zq bq tq yq hUq => ?_)
  · refine EndOk.mk (by cbv) (by cbv) (by cbv; repeat' (first | exact True.intro | exact rfl | with_reducible refine And.intro ?_ ?_)) (by cbv; repeat' (first | exact True.intro | exact rfl | with_reducible refine And.intro ?_ ?_)) (by cbv; repeat' (first | exact True.intro | exact rfl | with_reducible refine And.intro ?_ ?_))
  have q13 := hUq.z 13
  cbv at q13
  replace q13 := q13.eq
  simp only [atI, vem, veq, ne_eq, cmpI, arI, dvI, shI, SV.den] at q13
  clear hUq hR1
  try dsimp only [Shp.D, Shp.Ds, Shp.dflt] at *
  try simp only [vem, veq, ne_eq, cmpI, arI, dvI, shI, SV.den, elemAt, convL_self] at *
  try dsimp only [Shp.D, Shp.Ds, Shp.dflt, Shp.dflts] at *
  refine ⟨⟨by omega, by omega⟩, by omega⟩
theorem ac_1 {ol : List PrT} {ch : PrT} {z : Int} {q : Prop} (p1 : 0 ≤ z) (hz : z < (ol.length : Int)) (hn : (ol.getD z.toNat (0, 0, [], [], ())).1 = ch.1) (h : AccAt (ol.getD z.toNat (0, 0, [], [], ())) ch → q) : Acc ol ch → q := fun ha => h (ha.all z.toNat (by omega) hn)
theorem ac_no {ol : List PrT} {ch : PrT} {z : Int} {q : Prop} (hz : ¬ z < (ol.length : Int)) (p3 : ∀ i, i < z.toNat → ¬ (ol.getD i (0, 0, [], [], ())).1 = ch.1) : Acc ol ch → q := fun ha => by
  obtain ⟨i, h1, h2⟩ := ha.ex
  exact absurd h2 (p3 i (by omega))
theorem ac_g {ol : List PrT} {nu : Int} {z zq : Int} (p1 : 0 ≤ z) (p3 : ∀ i, i < z.toNat → ¬ (ol.getD i (0, 0, [], [], ())).1 = nu) (h : ¬ (ol.getD z.toNat (0, 0, [], [], ())).1 = nu) (e : zq = z + 1) : ∀ i, i < zq.toNat → ¬ (ol.getD i (0, 0, [], [], ())).1 = nu := fun i hi => by
  by_cases h2 : i < z.toNat
  · exact p3 i h2
  · have : i = z.toNat := by omega
    rw [this]; exact h
theorem bool_no {x : Bool} {P Q R : Prop} (hx : (P → x = true) ∧ Q) (h : (!x) = true) (hp : P) : R := by
  rw [hx.1 hp] at h; cases h
theorem ac_asc {p : PrT} {nu po : Int} {sp : List UInt8} {wl : List TrT} {k : Int} {q : Prop} {u : Unit} (k0 : k > 0) (k1 : k < (wl.length : Int)) (hl : (wl.length : Int) < 140737488355329) (h : (wl.getD k.toNat (0, 0, 0, ())).1 ≤ (wl.getD ((k - 1 + 9223372036854775808) % 18446744073709551616 - 9223372036854775808).toNat (0, 0, 0, ())).1) (a : AccAt p (nu, po, sp, wl, u)) : q := by
  have h1 := a.asc (k - 1).toNat (by show (k - 1).toNat + 1 < wl.length; omega)
  rw [show (k - 1).toNat + 1 = k.toNat by omega] at h1
  rw [show (k - 1 + 9223372036854775808) % 18446744073709551616 - 9223372036854775808 = k - 1 by omega] at h
  have h1 : (wl.getD (k - 1).toNat (0, 0, 0, ())).1 < (wl.getD k.toNat (0, 0, 0, ())).1 := h1
  omega
theorem ac_has {p : PrT} {nu po : Int} {sp : List UInt8} {wl : List TrT} {k : Int} {q : Prop} {u : Unit} (k0 : 0 ≤ k) (k1 : k < (wl.length : Int)) (h : (!hasT p.2.2.2.1 ((wl.getD k.toNat (0, 0, 0, ())).1, (wl.getD k.toNat (0, 0, 0, ())).2.1, (wl.getD k.toNat (0, 0, 0, ())).2.2.1, PUnit.unit)) = true) (a : AccAt p (nu, po, sp, wl, u)) : q := by
  have h1 := a.has k.toNat (by show k.toNat < wl.length; omega)
  have h1 : hasT p.2.2.2.1 ((wl.getD k.toNat (0, 0, 0, ())).1, (wl.getD k.toNat (0, 0, 0, ())).2.1, (wl.getD k.toNat (0, 0, 0, ())).2.2.1, PUnit.unit) = true := h1
  rw [h1] at h
  cases h
def af1C_t : SpecT := fun _ => none
def af1C : Cx := ⟨tt, qt, bt, st, af1C_t, 0, 1000000000000000, fun _ => none, false, CxE.no⟩
theorem af1C_si {E : Env} (h : E.ok) : SpecsOk Try.prog E (CxE.no) af1C_t (fun _ => none) := ⟨(fun t f h => by cases h), noI_ok _ _ _⟩
theorem af1C_x {E : Env} (h : E.ok) : CxEOk Try.prog E (CxE.no) := CxE.no_ok _ _
theorem af1C_cx (E : Env) (h : E.ok) (h1 : E.lo = 0) (h2 : E.hi = 1000000000000000) : Cx.ok af1C Try.prog E := ⟨tt_ok, qt_ok, bt_ok, af1C_si h, h, h1, h2, mixed_ok, af1C_x h⟩
theorem af1C_from (lo hi : Nat) (E : Env) (h : E.ok) (h1 : E.lo = lo) (h2 : E.hi = hi) : Cx.ok (Cx.from af1C lo hi) Try.prog E := ⟨tt_ok, qt_ok, bt_ok, af1C_si h, h, h1, h2, mixed_ok, af1C_x h⟩
def aifC_t : SpecT := fun _ => none
def aifC_i : SpecT := lf0 63 (inlSpec af1C Try.f63)
def aifC : Cx := ⟨tt, qt, bt, st, aifC_t, 0, 1000000000000000, aifC_i, true, CxE.no⟩
theorem aifC_si {E : Env} (h : E.ok) : SpecsOk Try.prog E (CxE.no) aifC_t (aifC_i) := ⟨(fun t f h => by cases h), (lf0_ok (inl_ok h af1C_from Try.func63 ⟨by rfl, by rfl⟩ (by kernel_rfl)))⟩
theorem aifC_x {E : Env} (h : E.ok) : CxEOk Try.prog E (CxE.no) := CxE.no_ok _ _
theorem aifC_cx (E : Env) (h : E.ok) (h1 : E.lo = 0) (h2 : E.hi = 1000000000000000) : Cx.ok aifC Try.prog E := ⟨tt_ok, qt_ok, bt_ok, aifC_si h, h, h1, h2, mixed_ok, aifC_x h⟩
theorem aifC_from (lo hi : Nat) (E : Env) (h : E.ok) (h1 : E.lo = lo) (h2 : E.hi = hi) : Cx.ok (Cx.from aifC lo hi) Try.prog E := ⟨tt_ok, qt_ok, bt_ok, aifC_si h, h, h1, h2, mixed_ok, aifC_x h⟩
def accC_t : SpecT := nd0 65 (lf0 64 (eqsSp)) (nd0 66 (lf0 65 (tyoFn)) (lf0 66 (hasTFn)))
def accC_i : SpecT := lf0 62 (inlSpec aifC Try.f62)
def accC : Cx := ⟨tt, qt, bt, st, accC_t, 0, 1000000000000000, accC_i, true, CxE.no⟩
theorem accC_si {E : Env} (h : E.ok) : SpecsOk Try.prog E (CxE.no) accC_t (accC_i) := ⟨(nd0_ok (lf0_ok (eqs_sp h)) (nd0_ok (lf0_ok (tyo_sp h)) (lf0_ok (con_sp h)))), (lf0_ok (inl_ok h aifC_from Try.func62 ⟨by rfl, by rfl⟩ (by kernel_rfl)))⟩
theorem accC_x {E : Env} (h : E.ok) : CxEOk Try.prog E (CxE.no) := CxE.no_ok _ _
theorem accC_cx (E : Env) (h : E.ok) (h1 : E.lo = 0) (h2 : E.hi = 1000000000000000) : Cx.ok accC Try.prog E := ⟨tt_ok, qt_ok, bt_ok, accC_si h, h, h1, h2, mixed_ok, accC_x h⟩
theorem accC_from (lo hi : Nat) (E : Env) (h : E.ok) (h1 : E.lo = lo) (h2 : E.hi = hi) : Cx.ok (Cx.from accC lo hi) Try.prog E := ⟨tt_ok, qt_ok, bt_ok, accC_si h, h, h1, h2, mixed_ok, accC_x h⟩
theorem acc_fn : hasFn Try.prog 27 := ⟨_, Try.func27, by rfl, by rfl⟩
abbrev accSp : Spec := fnSpec [.sl prE, prE] [.bool] [] (fun x => okP x.1 ∧ okT x.2.1.2.2.2.1) fun x y => Acc x.1 x.2.1 → y.1 = true
theorem acc_sp {E : Env} (hE : E.ok) : SpecOk Try.prog E 27 accSp := by
  refine spec_of_vc (C := accC) acc_fn Try.func27 (by kernel_rfl) accC_cx (fun x hl hx => ?_) hE
  obtain ⟨ol, ⟨nu, po, sp, wl, u1⟩, u2⟩ := x
  obtain ⟨hx1, hx2⟩ := hx
  have hlen : ol.length ≤ 140737488355328 := by simp only [Shp.lims, Shp.lim] at hl; exact hl.1.1
  have hlen2 : wl.length ≤ 140737488355328 := by simp only [Shp.lims, Shp.lim] at hl; exact hl.2.1.2.2.2.1.1
  cbv
  (repeat' (first | ((with_reducible refine And.intro (fun h => ?_) (fun h => ?_)) <;> (first | with_reducible exact (tf h (by assumption)).elim | with_reducible exact (tf (by assumption) h).elim | cbv)) | ((with_reducible show JoinT (fun s K => vc _ (Code.region _ _ true) s K) _ _ _ _ _); (with_reducible apply JoinT.mg2); (focus (cbv; (repeat' (first | ((with_reducible refine And.intro (fun h => ?_) (fun h => ?_)) <;> (first | with_reducible exact (tf h (by assumption)).elim | with_reducible exact (tf (by assumption) h).elim | cbv)) | ((with_reducible first | refine Cb.mk ?_ | refine Lz.mk ?_ | refine JoinT.left ?_ | refine AllT.mk (fun x hx => ?_)); cbv) | ((with_reducible refine Ob.mk (fun _ => ?_) ?_); rotate_left 1) | (with_reducible first | refine Mg.mk (Exists.intro ?_ (And.intro ?_ ?_)) | rfl | refine Fin.mk ?_ | exact True.intro | refine And.intro ?_ ?_))); (all_goals (try (have du : Unit := (); have dv : Unit := (); first | exact Goes.self (Ex2.mk ⟨dv, du, trivial, trivial, rfl⟩) | exact Goes.self (Ex2.mk ⟨x, du, hx, trivial, rfl⟩) | (rename_i xa hxa; exact Goes.self (Ex2.mk ⟨xa, x, hxa, hx, rfl⟩))))); (all_goals (fail_if_success (with_reducible first | show Goes _ _ _ _ | show (∃ _, unr _ _ _ _ _ _))))))) | ((with_reducible first | refine Cb.mk ?_ | refine Lz.mk ?_ | refine JoinT.left ?_ | refine AllT.mk (fun x hx => ?_)); cbv) | ((with_reducible refine Ob.mk (fun _ => ?_) ?_); rotate_left 1) | (with_reducible first | refine Mg.mk (Exists.intro ?_ (And.intro ?_ ?_)) | rfl | refine Fin.mk ?_ | exact True.intro | refine And.intro ?_ ?_)))
  all_goals first | (with_reducible show (∃ _, unr _ _ _ _ _ _); skip) | (with_reducible show Goes _ _ _ _; skip) | (with_reducible show JoinT _ _ _ _ _ _; skip) | (first | ((try dsimp only [Shp.D, Shp.Ds, Shp.dflt] at *); simp only [vem, veq, ne_eq, cmpI, arI, dvI, shI, SV.den, obLt, elemAt, obApp, partL, obPart, lowD, highD, mxOk, convL_self, zerosB, List.length_replicate, vln] at *; (try dsimp only [Shp.D, Shp.Ds, Shp.dflt, Shp.dflts] at *); done) | ((try dsimp only [Shp.D, Shp.Ds, Shp.dflt] at *); simp only [vem, veq, ne_eq, cmpI, arI, dvI, shI, SV.den, obLt, elemAt, obApp, partL, obPart, lowD, highD, mxOk, convL_self, zerosB, List.length_replicate, vln] at *; (try dsimp only [Shp.D, Shp.Ds, Shp.dflt, Shp.dflts] at *); omega) | (try ((try dsimp only [Shp.D, Shp.Ds, Shp.dflt] at *); simp only [vem, veq, ne_eq, cmpI, arI, dvI, shI, SV.den, obLt, elemAt, obApp, partL, obPart, lowD, highD, mxOk, convL_self, zerosB, List.length_replicate, vln] at *; (try dsimp only [Shp.D, Shp.Ds, Shp.dflt, Shp.dflts] at *))))
  with_reducible refine loop_hv [] (5 :: rangeN 9 10) [] [] (fun z b t y => 0 ≤ z 8 ∧ z 8 ≤ (ol.length : Int) ∧ (∀ i, i < (z 8).toNat → ¬ (ol.getD i (0, 0, [], [], ())).1 = nu)) (fun z b t y => ((ol.length : Int) - z 8).toNat) (by cbv) (by cbv) ?_ ?_ (fun z1 b1 t1 u1 y1 R1 hP1 hR1 => ?_)
  · refine EndOk.mk (by cbv) (by cbv) (by cbv; repeat' (first | exact True.intro | exact rfl | with_reducible refine And.intro ?_ ?_)) (by cbv; repeat' (first | exact True.intro | exact rfl | with_reducible refine And.intro ?_ ?_)) (by cbv; repeat' (first | exact True.intro | exact rfl | with_reducible refine And.intro ?_ ?_))
  · intro zq bq tq yq hUq
    have q8 := hUq.z 8
    cbv at q8
    replace q8 := q8.eq
    simp only [atI, vem, veq, ne_eq, cmpI, arI, dvI, shI, SV.den] at q8
    clear hUq
    try dsimp only [Shp.D, Shp.Ds, Shp.dflt] at *
    try simp only [vem, veq, ne_eq, cmpI, arI, dvI, shI, SV.den, convL_self] at *
    rw [← q8]
    exact ⟨by omega, by omega, fun i hi => absurd hi (by simp)⟩
  obtain ⟨p1, p2, p3⟩ := hP1
  cbv
  (repeat' (first | ((with_reducible refine And.intro (fun h => ?_) (fun h => ?_)) <;> (first | with_reducible exact (tf h (by assumption)).elim | with_reducible exact (tf (by assumption) h).elim | cbv)) | ((with_reducible show JoinT (fun s K => vc _ (Code.region _ _ true) s K) _ _ _ _ _); (with_reducible apply JoinT.mg2); (focus (cbv; (repeat' (first | ((with_reducible refine And.intro (fun h => ?_) (fun h => ?_)) <;> (first | with_reducible exact (tf h (by assumption)).elim | with_reducible exact (tf (by assumption) h).elim | cbv)) | ((with_reducible first | refine Cb.mk ?_ | refine Lz.mk ?_ | refine JoinT.left ?_ | refine AllT.mk (fun x hx => ?_)); cbv) | ((with_reducible refine Ob.mk (fun _ => ?_) ?_); rotate_left 1) | (with_reducible first | refine Mg.mk (Exists.intro ?_ (And.intro ?_ ?_)) | rfl | refine Fin.mk ?_ | exact True.intro | refine And.intro ?_ ?_))); (all_goals (try (have du : Unit := (); have dv : Unit := (); first | exact Goes.self (Ex2.mk ⟨dv, du, trivial, trivial, rfl⟩) | exact Goes.self (Ex2.mk ⟨x, du, hx, trivial, rfl⟩) | (rename_i xa hxa; exact Goes.self (Ex2.mk ⟨xa, x, hxa, hx, rfl⟩))))); (all_goals (fail_if_success (with_reducible first | show Goes _ _ _ _ | show (∃ _, unr _ _ _ _ _ _))))))) | ((with_reducible first | refine Cb.mk ?_ | refine Lz.mk ?_ | refine JoinT.left ?_ | refine AllT.mk (fun x hx => ?_)); cbv) | ((with_reducible refine Ob.mk (fun _ => ?_) ?_); rotate_left 1) | (with_reducible first | refine Mg.mk (Exists.intro ?_ (And.intro ?_ ?_)) | rfl | refine Fin.mk ?_ | exact True.intro | refine And.intro ?_ ?_)))
  all_goals first | (with_reducible show (∃ _, unr _ _ _ _ _ _); skip) | (with_reducible show Goes _ _ _ _; skip) | (with_reducible show JoinT _ _ _ _ _ _; skip) | (first | ((try dsimp only [Shp.D, Shp.Ds, Shp.dflt] at *); simp only [vem, veq, ne_eq, cmpI, arI, dvI, shI, SV.den, obLt, elemAt, obApp, partL, obPart, lowD, highD, mxOk, convL_self, zerosB, List.length_replicate, vln] at *; (try dsimp only [Shp.D, Shp.Ds, Shp.dflt, Shp.dflts] at *); done) | ((try dsimp only [Shp.D, Shp.Ds, Shp.dflt] at *); simp only [vem, veq, ne_eq, cmpI, arI, dvI, shI, SV.den, obLt, elemAt, obApp, partL, obPart, lowD, highD, mxOk, convL_self, zerosB, List.length_replicate, vln] at *; (try dsimp only [Shp.D, Shp.Ds, Shp.dflt, Shp.dflts] at *); omega) | ((try dsimp only [Shp.D, Shp.Ds, Shp.dflt] at *); simp only [vem, veq, ne_eq, cmpI, arI, dvI, shI, SV.den, obLt, elemAt, obApp, partL, obPart, lowD, highD, mxOk, convL_self, zerosB, List.length_replicate, vln] at *; (try dsimp only [Shp.D, Shp.Ds, Shp.dflt, Shp.dflts] at *); exact okP.at hx1 _) | ((try dsimp only [Shp.D, Shp.Ds, Shp.dflt] at *); simp only [vem, veq, ne_eq, cmpI, arI, dvI, shI, SV.den, obLt, elemAt, obApp, partL, obPart, lowD, highD, mxOk, convL_self, zerosB, List.length_replicate, vln] at *; (try dsimp only [Shp.D, Shp.Ds, Shp.dflt, Shp.dflts] at *); exact ac_no (by assumption) p3) | ((try dsimp only [Shp.D, Shp.Ds, Shp.dflt] at *); simp only [vem, veq, ne_eq, cmpI, arI, dvI, shI, SV.den, obLt, elemAt, obApp, partL, obPart, lowD, highD, mxOk, convL_self, zerosB, List.length_replicate, vln] at *; (try dsimp only [Shp.D, Shp.Ds, Shp.dflt, Shp.dflts] at *); exact ac_1 p1 (by assumption) (by assumption) fun a => absurd a.prot h) | ((try dsimp only [Shp.D, Shp.Ds, Shp.dflt] at *); simp only [vem, veq, ne_eq, cmpI, arI, dvI, shI, SV.den, obLt, elemAt, obApp, partL, obPart, lowD, highD, mxOk, convL_self, zerosB, List.length_replicate, vln] at *; (try dsimp only [Shp.D, Shp.Ds, Shp.dflt, Shp.dflts] at *); exact ac_1 p1 (by assumption) (by assumption) fun a => absurd a.ty h) | ((try dsimp only [Shp.D, Shp.Ds, Shp.dflt] at *); simp only [vem, veq, ne_eq, cmpI, arI, dvI, shI, SV.den, obLt, elemAt, obApp, partL, obPart, lowD, highD, mxOk, convL_self, zerosB, List.length_replicate, vln] at *; (try dsimp only [Shp.D, Shp.Ds, Shp.dflt, Shp.dflts] at *); exact ac_1 p1 (by assumption) (by assumption) fun a => bool_no hx h a.spi) | (try ((try dsimp only [Shp.D, Shp.Ds, Shp.dflt] at *); simp only [vem, veq, ne_eq, cmpI, arI, dvI, shI, SV.den, obLt, elemAt, obApp, partL, obPart, lowD, highD, mxOk, convL_self, zerosB, List.length_replicate, vln] at *; (try dsimp only [Shp.D, Shp.Ds, Shp.dflt, Shp.dflts] at *))))
  · with_reducible refine loop_hv [] (7 :: 8 :: rangeN 42 26) [] [] (fun z b t y => 0 ≤ z 41 ∧ z 41 ≤ (wl.length : Int)) (fun z b t y => ((wl.length : Int) - z 41).toNat) (by cbv) (by cbv) ?_ ?_ (fun z2 b2 t2 u2 y2 R2 hP2 hR2 => ?_)
    · refine EndOk.mk (by cbv) (by cbv) (by cbv; repeat' (first | exact True.intro | exact rfl | with_reducible refine And.intro ?_ ?_)) (by cbv; repeat' (first | exact True.intro | exact rfl | with_reducible refine And.intro ?_ ?_)) (by cbv; repeat' (first | exact True.intro | exact rfl | with_reducible refine And.intro ?_ ?_))
    · intro zq bq tq yq hUq
      have q41 := hUq.z 41
      cbv at q41
      replace q41 := q41.eq
      simp only [atI, vem, veq, ne_eq, cmpI, arI, dvI, shI, SV.den] at q41
      clear hUq
      try dsimp only [Shp.D, Shp.Ds, Shp.dflt] at *
      try simp only [vem, veq, ne_eq, cmpI, arI, dvI, shI, SV.den, convL_self] at *
      rw [← q41]
      exact ⟨by omega, by omega⟩
    obtain ⟨r1, r2⟩ := hP2
    cbv
    (repeat' (first | ((with_reducible refine And.intro (fun h => ?_) (fun h => ?_)) <;> (first | with_reducible exact (tf h (by assumption)).elim | with_reducible exact (tf (by assumption) h).elim | cbv)) | ((with_reducible show JoinT (fun s K => vc _ (Code.region _ _ true) s K) _ _ _ _ _); (with_reducible apply JoinT.mg2); (focus (cbv; (repeat' (first | ((with_reducible refine And.intro (fun h => ?_) (fun h => ?_)) <;> (first | with_reducible exact (tf h (by assumption)).elim | with_reducible exact (tf (by assumption) h).elim | cbv)) | ((with_reducible first | refine Cb.mk ?_ | refine Lz.mk ?_ | refine JoinT.left ?_ | refine AllT.mk (fun x hx => ?_)); cbv) | ((with_reducible refine Ob.mk (fun _ => ?_) ?_); rotate_left 1) | (with_reducible first | refine Mg.mk (Exists.intro ?_ (And.intro ?_ ?_)) | rfl | refine Fin.mk ?_ | exact True.intro | refine And.intro ?_ ?_))); (all_goals (try (have du : Unit := (); have dv : Unit := (); first | exact Goes.self (Ex2.mk ⟨dv, du, trivial, trivial, rfl⟩) | exact Goes.self (Ex2.mk ⟨x, du, hx, trivial, rfl⟩) | (rename_i xa hxa; exact Goes.self (Ex2.mk ⟨xa, x, hxa, hx, rfl⟩))))); (all_goals (fail_if_success (with_reducible first | show Goes _ _ _ _ | show (∃ _, unr _ _ _ _ _ _))))))) | ((with_reducible first | refine Cb.mk ?_ | refine Lz.mk ?_ | refine JoinT.left ?_ | refine AllT.mk (fun x hx => ?_)); cbv) | ((with_reducible refine Ob.mk (fun _ => ?_) ?_); rotate_left 1) | (with_reducible first | refine Mg.mk (Exists.intro ?_ (And.intro ?_ ?_)) | rfl | refine Fin.mk ?_ | exact True.intro | refine And.intro ?_ ?_)))
    all_goals first | (with_reducible show (∃ _, unr _ _ _ _ _ _); skip) | (with_reducible show Goes _ _ _ _; skip) | (with_reducible show JoinT _ _ _ _ _ _; skip) | (first | ((try dsimp only [Shp.D, Shp.Ds, Shp.dflt] at *); simp only [vem, veq, ne_eq, cmpI, arI, dvI, shI, SV.den, obLt, elemAt, obApp, partL, obPart, lowD, highD, mxOk, convL_self, zerosB, List.length_replicate, vln] at *; (try dsimp only [Shp.D, Shp.Ds, Shp.dflt, Shp.dflts] at *); done) | ((try dsimp only [Shp.D, Shp.Ds, Shp.dflt] at *); simp only [vem, veq, ne_eq, cmpI, arI, dvI, shI, SV.den, obLt, elemAt, obApp, partL, obPart, lowD, highD, mxOk, convL_self, zerosB, List.length_replicate, vln] at *; (try dsimp only [Shp.D, Shp.Ds, Shp.dflt, Shp.dflts] at *); omega) | ((try dsimp only [Shp.D, Shp.Ds, Shp.dflt] at *); simp only [vem, veq, ne_eq, cmpI, arI, dvI, shI, SV.den, obLt, elemAt, obApp, partL, obPart, lowD, highD, mxOk, convL_self, zerosB, List.length_replicate, vln] at *; (try dsimp only [Shp.D, Shp.Ds, Shp.dflt, Shp.dflts] at *); intro _; trivial) | ((try dsimp only [Shp.D, Shp.Ds, Shp.dflt] at *); simp only [vem, veq, ne_eq, cmpI, arI, dvI, shI, SV.den, obLt, elemAt, obApp, partL, obPart, lowD, highD, mxOk, convL_self, zerosB, List.length_replicate, vln] at *; (try dsimp only [Shp.D, Shp.Ds, Shp.dflt, Shp.dflts] at *); exact ac_1 p1 (by assumption) (by assumption) fun a => ac_asc (by assumption) (by assumption) (by omega) h a) | ((try dsimp only [Shp.D, Shp.Ds, Shp.dflt] at *); simp only [vem, veq, ne_eq, cmpI, arI, dvI, shI, SV.den, obLt, elemAt, obApp, partL, obPart, lowD, highD, mxOk, convL_self, zerosB, List.length_replicate, vln] at *; (try dsimp only [Shp.D, Shp.Ds, Shp.dflt, Shp.dflts] at *); exact ac_1 p1 (by assumption) (by assumption) fun a => ac_has r1 (by assumption) h a) | (try ((try dsimp only [Shp.D, Shp.Ds, Shp.dflt] at *); simp only [vem, veq, ne_eq, cmpI, arI, dvI, shI, SV.den, obLt, elemAt, obApp, partL, obPart, lowD, highD, mxOk, convL_self, zerosB, List.length_replicate, vln] at *; (try dsimp only [Shp.D, Shp.Ds, Shp.dflt, Shp.dflts] at *))))
    all_goals first
      | (with_reducible show Goes _ _ _ _; skip)
      | trace_state
    · with_reducible refine hR2 _ ?_ (fun zq bq tq yq hUq => ?_)
      · refine EndOk.mk (by cbv) (by cbv) (by cbv; repeat' (first | exact True.intro | exact rfl | with_reducible refine And.intro ?_ ?_)) (by cbv; repeat' (first | exact True.intro | exact rfl | with_reducible refine And.intro ?_ ?_)) (by cbv; repeat' (first | exact True.intro | exact rfl | with_reducible refine And.intro ?_ ?_))
      have q41 := hUq.z 41
      cbv at q41
      replace q41 := q41.eq
      simp only [atI, vem, veq, ne_eq, cmpI, arI, dvI, shI, SV.den] at q41
      clear hUq hR2
      try dsimp only [Shp.D, Shp.Ds, Shp.dflt] at *
      try simp only [vem, veq, ne_eq, cmpI, arI, dvI, shI, SV.den, elemAt, convL_self] at *
      try dsimp only [Shp.D, Shp.Ds, Shp.dflt, Shp.dflts] at *
      exact ⟨⟨by omega, by omega⟩, by omega⟩
    · with_reducible refine hR2 _ ?_ (fun zq bq tq yq hUq => ?_)
      · refine EndOk.mk (by cbv) (by cbv) (by cbv; repeat' (first | exact True.intro | exact rfl | with_reducible refine And.intro ?_ ?_)) (by cbv; repeat' (first | exact True.intro | exact rfl | with_reducible refine And.intro ?_ ?_)) (by cbv; repeat' (first | exact True.intro | exact rfl | with_reducible refine And.intro ?_ ?_))
      have q41 := hUq.z 41
      cbv at q41
      replace q41 := q41.eq
      simp only [atI, vem, veq, ne_eq, cmpI, arI, dvI, shI, SV.den] at q41
      clear hUq hR2
      try dsimp only [Shp.D, Shp.Ds, Shp.dflt] at *
      try simp only [vem, veq, ne_eq, cmpI, arI, dvI, shI, SV.den, elemAt, convL_self] at *
      try dsimp only [Shp.D, Shp.Ds, Shp.dflt, Shp.dflts] at *
      exact ⟨⟨by omega, by omega⟩, by omega⟩
  · with_reducible refine hR1 _ ?_ (fun zq bq tq yq hUq => ?_)
    · refine EndOk.mk (by cbv) (by cbv) (by cbv; repeat' (first | exact True.intro | exact rfl | with_reducible refine And.intro ?_ ?_)) (by cbv; repeat' (first | exact True.intro | exact rfl | with_reducible refine And.intro ?_ ?_)) (by cbv; repeat' (first | exact True.intro | exact rfl | with_reducible refine And.intro ?_ ?_))
    have q8 := hUq.z 8
    cbv at q8
    replace q8 := q8.eq
    simp only [atI, vem, veq, ne_eq, cmpI, arI, dvI, shI, SV.den] at q8
    clear hUq hR1
    try dsimp only [Shp.D, Shp.Ds, Shp.dflt] at *
    try simp only [vem, veq, ne_eq, cmpI, arI, dvI, shI, SV.den, elemAt, convL_self] at *
    try dsimp only [Shp.D, Shp.Ds, Shp.dflt, Shp.dflts] at *
    refine ⟨⟨by omega, by omega, ?_⟩, by omega⟩
    exact ac_g p1 p3 h (by omega)
end Go.Proofs.Ytiinlanpinanhaa.V
