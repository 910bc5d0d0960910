/- Contracts: packets within selectors (negotiate). -/
import Derived.Test.YtiinlanpinanhaaVS
import Derived.Test.YtiinlanpinanhaaVg
set_option linter.unusedVariables false
set_option linter.unusedSimpArgs false
namespace Go.Proofs.Ytiinlanpinanhaa.V
open Go.RowKit
set_option maxHeartbeats 8000000
set_option maxRecDepth 100000
def hsC_t : SpecT := nd0 56 (lf0 37 (lessFn)) (nd0 57 (lf0 56 (opqFn)) (lf0 57 (allFn)))
def hsC : Cx := ⟨tt, qt, bt, st, hsC_t, 0, 1000000000000000, fun _ => none, false, CxE.no⟩
theorem hsC_si {E : Env} (h : E.ok) : SpecsOk Try.prog E (CxE.no) hsC_t (fun _ => none) := ⟨(nd0_ok (lf0_ok (sless_fs h)) (nd0_ok (lf0_ok (sopq_fs h)) (lf0_ok (sall_fs h)))), noI_ok _ _ _⟩
theorem hsC_x {E : Env} (h : E.ok) : CxEOk Try.prog E (CxE.no) := CxE.no_ok _ _
theorem hsC_cx (E : Env) (h : E.ok) (h1 : E.lo = 0) (h2 : E.hi = 1000000000000000) : Cx.ok hsC Try.prog E := ⟨tt_ok, qt_ok, bt_ok, hsC_si h, h, h1, h2, mixed_ok, hsC_x h⟩
theorem hsC_from (lo hi : Nat) (E : Env) (h : E.ok) (h1 : E.lo = lo) (h2 : E.hi = hi) : Cx.ok (Cx.from hsC lo hi) Try.prog E := ⟨tt_ok, qt_ok, bt_ok, hsC_si h, h, h1, h2, mixed_ok, hsC_x h⟩
abbrev hasAs : List Shp := [selE, adrE, .int .i64, .int .i64]
abbrev hasFn1 : Spec := fnFn hasAs [.bool] (fun _ => True) fun x => (has (toSel x.1) (toAdr x.2.1) x.2.2.1 x.2.2.2.1, ())
theorem shas_fn : hasFn Try.prog 22 := ⟨_, Try.func22, by rfl, by rfl⟩
theorem shas_sp0 {E : Env} (hE : E.ok) : SpecOk Try.prog E 22 (fnSpec hasAs [.bool] [] (fun _ => True) fun x y => y.1 = has (toSel x.1) (toAdr x.2.1) x.2.2.1 x.2.2.2.1) := by
  refine spec_of_vc (C := hsC) shas_fn Try.func22 (by kernel_rfl) hsC_cx (fun x hl hx => ?_) hE
  obtain ⟨⟨p, a, b, ⟨f, h, l, u⟩, ⟨f', h', l', u'⟩, u1⟩, ⟨f2, h2, l2, u2⟩, pr, port, u3⟩ := x
  cbv
  (repeat' (first | ((with_reducible refine And.intro (fun h => ?_) (fun h => ?_)) <;> (first | with_reducible exact (tf h (by assumption)).elim | with_reducible exact (tf (by assumption) h).elim | cbv)) | ((with_reducible first | refine Cb.mk ?_ | refine Lz.mk ?_ | refine JoinT.left ?_ | refine AllT.mk (fun x hx => ?_)); cbv) | ((with_reducible refine Ob.mk (fun _ => ?_) ?_); rotate_left 1) | (with_reducible first | refine Mg.mk (Exists.intro ?_ (And.intro ?_ ?_)) | rfl | refine Fin.mk ?_ | exact True.intro | refine And.intro ?_ ?_)))
  all_goals first | (with_reducible show (∃ _, unr _ _ _ _ _ _); skip) | (with_reducible show Goes _ _ _ _; skip) | (with_reducible show JoinT _ _ _ _ _ _; skip) | (first | ((try dsimp only [Shp.D, Shp.Ds, Shp.dflt] at *); simp only [vem, veq, ne_eq, cmpI, arI, dvI, shI, SV.den, obLt, elemAt, obApp, partL, obPart, lowD, highD, mxOk, convL_self, zerosB, List.length_replicate, vln] at *; (try dsimp only [Shp.D, Shp.Ds, Shp.dflt, Shp.dflts] at *); done) | ((try dsimp only [Shp.D, Shp.Ds, Shp.dflt] at *); simp only [vem, veq, ne_eq, cmpI, arI, dvI, shI, SV.den, obLt, elemAt, obApp, partL, obPart, lowD, highD, mxOk, convL_self, zerosB, List.length_replicate, vln] at *; (try dsimp only [Shp.D, Shp.Ds, Shp.dflt, Shp.dflts] at *); simp_all [has, toSel, toAdr]; done) | ((try dsimp only [Shp.D, Shp.Ds, Shp.dflt] at *); simp only [vem, veq, ne_eq, cmpI, arI, dvI, shI, SV.den, obLt, elemAt, obApp, partL, obPart, lowD, highD, mxOk, convL_self, zerosB, List.length_replicate, vln] at *; (try dsimp only [Shp.D, Shp.Ds, Shp.dflt, Shp.dflts] at *); simp_all [has, toSel, toAdr]; omega) | ((try dsimp only [Shp.D, Shp.Ds, Shp.dflt] at *); simp only [vem, veq, ne_eq, cmpI, arI, dvI, shI, SV.den, obLt, elemAt, obApp, partL, obPart, lowD, highD, mxOk, convL_self, zerosB, List.length_replicate, vln] at *; (try dsimp only [Shp.D, Shp.Ds, Shp.dflt, Shp.dflts] at *); simp_all [has, toSel, toAdr]; intros; omega))
theorem shas_sp {E : Env} (hE : E.ok) : SpecOk Try.prog E 22 hasFn1 := fnFn_of (shas_sp0 hE) fun x y h => by rw [← h]
def c1C_t : SpecT := lf0 22 (hasFn1)
def c1C : Cx := ⟨tt, qt, bt, st, c1C_t, 0, 1000000000000000, fun _ => none, false, CxE.no⟩
theorem c1C_si {E : Env} (h : E.ok) : SpecsOk Try.prog E (CxE.no) c1C_t (fun _ => none) := ⟨(lf0_ok (shas_sp h)), noI_ok _ _ _⟩
theorem c1C_x {E : Env} (h : E.ok) : CxEOk Try.prog E (CxE.no) := CxE.no_ok _ _
theorem c1C_cx (E : Env) (h : E.ok) (h1 : E.lo = 0) (h2 : E.hi = 1000000000000000) : Cx.ok c1C Try.prog E := ⟨tt_ok, qt_ok, bt_ok, c1C_si h, h, h1, h2, mixed_ok, c1C_x h⟩
theorem c1C_from (lo hi : Nat) (E : Env) (h : E.ok) (h1 : E.lo = lo) (h2 : E.hi = hi) : Cx.ok (Cx.from c1C lo hi) Try.prog E := ⟨tt_ok, qt_ok, bt_ok, c1C_si h, h, h1, h2, mixed_ok, c1C_x h⟩
abbrev con1As : List Shp := [selE, .sl adrE, .sl (.int .i64), .sl (.int .i64)]
abbrev con1Vs : List AV := [.v, .p 3, .p 1, .p 1]
abbrev con1Pre : Shp.Ds con1As → Prop := fun x => x.2.1.length = 1 ∧ x.2.2.1.length = 1 ∧ x.2.2.2.1.length = 1
abbrev con1Sp : Spec := fnSpecV con1Vs con1As [.bool] [] con1Pre fun x y => y.1 = has (toSel x.1) (toAdr (x.2.1.getD 0 (0, 0, 0, ()))) (x.2.2.1.getD 0 0) (x.2.2.2.1.getD 0 0)
theorem con1_fn : hasFn Try.prog 102 := ⟨_, Try.func102, by rfl, by rfl⟩
theorem con1_sp {E : Env} (hE : E.ok) : SpecOk Try.prog E 102 con1Sp := by
  refine spec_of_vcV (C := c1C) con1_fn Try.func102 (by kernel_rfl) c1C_cx (fun x hl hx => ?_) hE
  obtain ⟨⟨p, a, b, ⟨f, h, l, u⟩, ⟨f', h', l', u'⟩, u1⟩, as1, prs, ports, u3⟩ := x
  obtain ⟨h1, h2, h3⟩ := hx
  cbv
  (repeat' (first | ((with_reducible refine And.intro (fun h => ?_) (fun h => ?_)) <;> (first | with_reducible exact (tf h (by assumption)).elim | with_reducible exact (tf (by assumption) h).elim | cbv)) | ((with_reducible first | refine Cb.mk ?_ | refine Lz.mk ?_ | refine JoinT.left ?_ | refine AllT.mk (fun x hx => ?_)); cbv) | ((with_reducible refine Ob.mk (fun _ => ?_) ?_); rotate_left 1) | (with_reducible first | refine Mg.mk (Exists.intro ?_ (And.intro ?_ ?_)) | rfl | refine Fin.mk ?_ | exact True.intro | refine And.intro ?_ ?_)))
  all_goals first | (with_reducible show (∃ _, unr _ _ _ _ _ _); skip) | (with_reducible show Goes _ _ _ _; skip) | (with_reducible show JoinT _ _ _ _ _ _; skip) | (first | ((try dsimp only [Shp.D, Shp.Ds, Shp.dflt] at *); simp only [vem, veq, ne_eq, cmpI, arI, dvI, shI, SV.den, obLt, elemAt, obApp, partL, obPart, lowD, highD, mxOk, convL_self, zerosB, List.length_replicate, vln] at *; (try dsimp only [Shp.D, Shp.Ds, Shp.dflt, Shp.dflts] at *); done) | ((try dsimp only [Shp.D, Shp.Ds, Shp.dflt] at *); simp only [vem, veq, ne_eq, cmpI, arI, dvI, shI, SV.den, obLt, elemAt, obApp, partL, obPart, lowD, highD, mxOk, convL_self, zerosB, List.length_replicate, vln] at *; (try dsimp only [Shp.D, Shp.Ds, Shp.dflt, Shp.dflts] at *); omega) | ((try dsimp only [Shp.D, Shp.Ds, Shp.dflt] at *); simp only [vem, veq, ne_eq, cmpI, arI, dvI, shI, SV.den, obLt, elemAt, obApp, partL, obPart, lowD, highD, mxOk, convL_self, zerosB, List.length_replicate, vln] at *; (try dsimp only [Shp.D, Shp.Ds, Shp.dflt, Shp.dflts] at *); rfl))
theorem any_drop {α : Type} (l : List α) (p : α → Bool) (d : α) (k : Nat) (h : k < l.length) : (l.drop k).any p = (p (l.getD k d) || (l.drop (k + 1)).any p) := by
  rw [List.drop_eq_getElem_cons h, List.any_cons, List.getD_eq_getElem?_getD, List.getElem?_eq_getElem h]
  rfl
abbrev selD0 : SelT := (0, 0, 0, (0, 0, 0, ()), (0, 0, 0, ()), ())
abbrev ixAs : List Shp := [.sl selE, .sl adrE, .sl (.int .i64), .sl (.int .i64)]
abbrev ixVs : List AV := [.v, .f 102 [some 3, some 1, some 1]]
abbrev ixPre : Shp.Ds ixAs → Prop := fun x => x.2.1.length = 1 ∧ x.2.2.1.length = 1 ∧ x.2.2.2.1.length = 1
def inL (l : List SelT) (a : AdrT) (pr port : Int) : Bool := l.any fun s => has (toSel s) (toAdr a) pr port
theorem inL_yes {l : List SelT} {a : AdrT} {pr port : Int} {k : Nat} (hk : k < l.length) (h : has (toSel (l.getD k selD0)) (toAdr a) pr port = true) : inL l a pr port = true := by
  unfold inL
  rw [List.any_eq_true]
  refine ⟨l[k], List.getElem_mem hk, ?_⟩
  rw [List.getD_eq_getElem?_getD, List.getElem?_eq_getElem hk] at h
  exact h
theorem inL_next {l : List SelT} {a : AdrT} {pr port : Int} {k : Nat} (hk : k < l.length) (hr : inL (l.drop k) a pr port = inL l a pr port) (h : has (toSel (l.getD k selD0)) (toAdr a) pr port = false) : inL (l.drop (k + 1)) a pr port = inL l a pr port := by
  rw [← hr]
  unfold inL
  rw [any_drop l _ selD0 k hk, h, Bool.false_or]
abbrev ixSp : Spec := fnSpecV ixVs ixAs [.int .i64] [] ixPre fun x y => decide (0 ≤ y.1) = inL x.1 (x.2.1.getD 0 (0, 0, 0, ())) (x.2.2.1.getD 0 0) (x.2.2.2.1.getD 0 0)
def ixC_t : SpecT := lf0 102 (con1Sp)
def ixC : Cx := ⟨tt, qt, bt, st, ixC_t, 0, 1000000000000000, fun _ => none, false, CxE.no⟩
theorem ixC_si {E : Env} (h : E.ok) : SpecsOk Try.prog E (CxE.no) ixC_t (fun _ => none) := ⟨(lf0_ok (con1_sp h)), noI_ok _ _ _⟩
theorem ixC_x {E : Env} (h : E.ok) : CxEOk Try.prog E (CxE.no) := CxE.no_ok _ _
theorem ixC_cx (E : Env) (h : E.ok) (h1 : E.lo = 0) (h2 : E.hi = 1000000000000000) : Cx.ok ixC Try.prog E := ⟨tt_ok, qt_ok, bt_ok, ixC_si h, h, h1, h2, mixed_ok, ixC_x h⟩
theorem ixC_from (lo hi : Nat) (E : Env) (h : E.ok) (h1 : E.lo = lo) (h2 : E.hi = hi) : Cx.ok (Cx.from ixC lo hi) Try.prog E := ⟨tt_ok, qt_ok, bt_ok, ixC_si h, h, h1, h2, mixed_ok, ixC_x h⟩
theorem ix_fn : hasFn Try.prog 113 := ⟨_, Try.func113, by rfl, by rfl⟩
theorem ix_sp {E : Env} (hE : E.ok) : SpecOk Try.prog E 113 ixSp := by
  refine spec_of_vcV (C := ixC) ix_fn Try.func113 (by kernel_rfl) ixC_cx (fun x hl hx => ?_) hE
  obtain ⟨l, as1, prs, ports, u3⟩ := x
  obtain ⟨h1, h2, h3⟩ := hx
  have hlen : l.length ≤ 140737488355328 := by simp only [Shp.lims, Shp.lim] at hl; exact hl.1.1
  cbv
  (repeat' (first | ((with_reducible refine And.intro (fun h => ?_) (fun h => ?_)) <;> (first | with_reducible exact (tf h (by assumption)).elim | with_reducible exact (tf (by assumption) h).elim | cbv)) | ((with_reducible first | refine Cb.mk ?_ | refine Lz.mk ?_ | refine JoinT.left ?_ | refine AllT.mk (fun x hx => ?_)); cbv) | ((with_reducible refine Ob.mk (fun _ => ?_) ?_); rotate_left 1) | (with_reducible first | refine Mg.mk (Exists.intro ?_ (And.intro ?_ ?_)) | rfl | refine Fin.mk ?_ | exact True.intro | refine And.intro ?_ ?_)))
  with_reducible refine loop_hv [] (5 :: rangeN 9 10) [] [] (fun z b t y => 0 ≤ z 8 ∧ z 8 ≤ (l.length : Int) ∧ inL (l.drop (z 8).toNat) (as1.getD 0 (0, 0, 0, ())) (prs.getD 0 0) (ports.getD 0 0) = inL l (as1.getD 0 (0, 0, 0, ())) (prs.getD 0 0) (ports.getD 0 0)) (fun z b t y => ((l.length : Int) - z 8).toNat) (by cbv) (by cbv) ?_ ?_ (fun z1 b1 t1 u1 y1 R1 hP1 hR1 => ?_)
  · refine EndOk.mk (by cbv) (by cbv) (by cbv; repeat' (first | exact True.intro | exact rfl | with_reducible refine And.intro ?_ ?_)) (by cbv; repeat' (first | exact True.intro | exact rfl | with_reducible refine And.intro ?_ ?_)) (by cbv; repeat' (first | exact True.intro | exact rfl | with_reducible refine And.intro ?_ ?_))
  · intro zq bq tq yq hUq
    have q8 := hUq.z 8
    cbv at q8
    replace q8 := q8.eq
    simp only [atI, vem, veq, ne_eq, cmpI, arI, dvI, shI, SV.den] at q8
    clear hUq
    try dsimp only [Shp.D, Shp.Ds, Shp.dflt] at *
    try simp only [vem, veq, ne_eq, cmpI, arI, dvI, shI, SV.den, convL_self] at *
    rw [← q8]
    exact ⟨by omega, by omega, rfl⟩
  obtain ⟨p1, p2, p3⟩ := hP1
  cbv
  (repeat' (first | ((with_reducible refine And.intro (fun h => ?_) (fun h => ?_)) <;> (first | with_reducible exact (tf h (by assumption)).elim | with_reducible exact (tf (by assumption) h).elim | cbv)) | ((with_reducible first | refine Cb.mk ?_ | refine Lz.mk ?_ | refine JoinT.left ?_ | refine AllT.mk (fun x hx => ?_)); cbv) | ((with_reducible refine Ob.mk (fun _ => ?_) ?_); rotate_left 1) | (with_reducible first | refine Mg.mk (Exists.intro ?_ (And.intro ?_ ?_)) | rfl | refine Fin.mk ?_ | exact True.intro | refine And.intro ?_ ?_)))
  all_goals first | (with_reducible show Goes _ _ _ _; skip) | (clear hR1)
  all_goals first | (with_reducible show (∃ _, unr _ _ _ _ _ _); skip) | (with_reducible show Goes _ _ _ _; skip) | (with_reducible show JoinT _ _ _ _ _ _; skip) | (first | ((try dsimp only [Shp.D, Shp.Ds, Shp.dflt] at *); simp only [vem, veq, ne_eq, cmpI, arI, dvI, shI, SV.den, obLt, elemAt, obApp, partL, obPart, lowD, highD, mxOk, convL_self, zerosB, List.length_replicate, vln] at *; (try dsimp only [Shp.D, Shp.Ds, Shp.dflt, Shp.dflts] at *); done) | ((try dsimp only [Shp.D, Shp.Ds, Shp.dflt] at *); simp only [vem, veq, ne_eq, cmpI, arI, dvI, shI, SV.den, obLt, elemAt, obApp, partL, obPart, lowD, highD, mxOk, convL_self, zerosB, List.length_replicate, vln] at *; (try dsimp only [Shp.D, Shp.Ds, Shp.dflt, Shp.dflts] at *); omega) | ((try dsimp only [Shp.D, Shp.Ds, Shp.dflt] at *); simp only [vem, veq, ne_eq, cmpI, arI, dvI, shI, SV.den, obLt, elemAt, obApp, partL, obPart, lowD, highD, mxOk, convL_self, zerosB, List.length_replicate, vln] at *; (try dsimp only [Shp.D, Shp.Ds, Shp.dflt, Shp.dflts] at *); rw [inL_yes (k := (z1 8).toNat) (by omega) (hx.1.symm.trans h)]; exact decide_eq_true p1) | ((try dsimp only [Shp.D, Shp.Ds, Shp.dflt] at *); simp only [vem, veq, ne_eq, cmpI, arI, dvI, shI, SV.den, obLt, elemAt, obApp, partL, obPart, lowD, highD, mxOk, convL_self, zerosB, List.length_replicate, vln] at *; (try dsimp only [Shp.D, Shp.Ds, Shp.dflt, Shp.dflts] at *); rw [List.drop_eq_nil_of_le (by omega)] at p3; rw [← p3]; rfl))
  with_reducible refine hR1 _ ?_ (fun zq bq tq yq hUq => ?_)
  · refine EndOk.mk (by cbv) (by cbv) (by cbv; repeat' (first | exact True.intro | exact rfl | with_reducible refine And.intro ?_ ?_)) (by cbv; repeat' (first | exact True.intro | exact rfl | with_reducible refine And.intro ?_ ?_)) (by cbv; repeat' (first | exact True.intro | exact rfl | with_reducible refine And.intro ?_ ?_))
  have q8 := hUq.z 8
  cbv at q8
  replace q8 := q8.eq
  simp only [atI, vem, veq, ne_eq, cmpI, arI, dvI, shI, SV.den] at q8
  clear hUq hR1
  try dsimp only [Shp.D, Shp.Ds, Shp.dflt] at *
  try simp only [vem, veq, ne_eq, cmpI, arI, dvI, shI, SV.den, elemAt, convL_self] at *
  try dsimp only [Shp.D, Shp.Ds, Shp.dflt, Shp.dflts] at *
  refine ⟨⟨by omega, by omega, ?_⟩, by omega⟩
  rw [show (zq 8).toNat = (z1 8).toNat + 1 by omega]
  exact inL_next (by omega) p3 (hx.1.symm.trans h)
abbrev cfSp : Spec := fnSpecV ixVs ixAs [.bool] [] ixPre fun x y => y.1 = inL x.1 (x.2.1.getD 0 (0, 0, 0, ())) (x.2.2.1.getD 0 0) (x.2.2.2.1.getD 0 0)
def cfC_t : SpecT := lf0 113 (ixSp)
def cfC : Cx := ⟨tt, qt, bt, st, cfC_t, 0, 1000000000000000, fun _ => none, false, CxE.no⟩
theorem cfC_si {E : Env} (h : E.ok) : SpecsOk Try.prog E (CxE.no) cfC_t (fun _ => none) := ⟨(lf0_ok (ix_sp h)), noI_ok _ _ _⟩
theorem cfC_x {E : Env} (h : E.ok) : CxEOk Try.prog E (CxE.no) := CxE.no_ok _ _
theorem cfC_cx (E : Env) (h : E.ok) (h1 : E.lo = 0) (h2 : E.hi = 1000000000000000) : Cx.ok cfC Try.prog E := ⟨tt_ok, qt_ok, bt_ok, cfC_si h, h, h1, h2, mixed_ok, cfC_x h⟩
theorem cfC_from (lo hi : Nat) (E : Env) (h : E.ok) (h1 : E.lo = lo) (h2 : E.hi = hi) : Cx.ok (Cx.from cfC lo hi) Try.prog E := ⟨tt_ok, qt_ok, bt_ok, cfC_si h, h, h1, h2, mixed_ok, cfC_x h⟩
theorem cf_fn : hasFn Try.prog 101 := ⟨_, Try.func101, by rfl, by rfl⟩
theorem cf_sp {E : Env} (hE : E.ok) : SpecOk Try.prog E 101 cfSp := by
  refine spec_of_vcV (C := cfC) cf_fn Try.func101 (by kernel_rfl) cfC_cx (fun x hl hx => ?_) hE
  obtain ⟨l, as1, prs, ports, u3⟩ := x
  obtain ⟨h1, h2, h3⟩ := hx
  cbv
  (repeat' (first | ((with_reducible refine And.intro (fun h => ?_) (fun h => ?_)) <;> (first | with_reducible exact (tf h (by assumption)).elim | with_reducible exact (tf (by assumption) h).elim | cbv)) | ((with_reducible first | refine Cb.mk ?_ | refine Lz.mk ?_ | refine JoinT.left ?_ | refine AllT.mk (fun x hx => ?_)); cbv) | ((with_reducible refine Ob.mk (fun _ => ?_) ?_); rotate_left 1) | (with_reducible first | refine Mg.mk (Exists.intro ?_ (And.intro ?_ ?_)) | rfl | refine Fin.mk ?_ | exact True.intro | refine And.intro ?_ ?_)))
  all_goals first | (with_reducible show (∃ _, unr _ _ _ _ _ _); skip) | (with_reducible show Goes _ _ _ _; skip) | (with_reducible show JoinT _ _ _ _ _ _; skip) | (first | ((try dsimp only [Shp.D, Shp.Ds, Shp.dflt] at *); simp only [vem, veq, ne_eq, cmpI, arI, dvI, shI, SV.den, obLt, elemAt, obApp, partL, obPart, lowD, highD, mxOk, convL_self, zerosB, List.length_replicate, vln] at *; (try dsimp only [Shp.D, Shp.Ds, Shp.dflt, Shp.dflts] at *); done) | ((try dsimp only [Shp.D, Shp.Ds, Shp.dflt] at *); simp only [vem, veq, ne_eq, cmpI, arI, dvI, shI, SV.den, obLt, elemAt, obApp, partL, obPart, lowD, highD, mxOk, convL_self, zerosB, List.length_replicate, vln] at *; (try dsimp only [Shp.D, Shp.Ds, Shp.dflt, Shp.dflts] at *); omega) | ((try dsimp only [Shp.D, Shp.Ds, Shp.dflt] at *); simp only [vem, veq, ne_eq, cmpI, arI, dvI, shI, SV.den, obLt, elemAt, obApp, partL, obPart, lowD, highD, mxOk, convL_self, zerosB, List.length_replicate, vln] at *; (try dsimp only [Shp.D, Shp.Ds, Shp.dflt, Shp.dflts] at *); exact hx.1))
abbrev ctAs : List Shp := [.sl selE, adrE, .int .i64, .int .i64]
abbrev ctFn : Spec := fnFn ctAs [.bool] (fun _ => True) fun x => (inL x.1 x.2.1 x.2.2.1 x.2.2.2.1, ())
def ctC_t : SpecT := lf0 101 (cfSp)
def ctC : Cx := ⟨tt, qt, bt, st, ctC_t, 0, 1000000000000000, fun _ => none, false, CxE.no⟩
theorem ctC_si {E : Env} (h : E.ok) : SpecsOk Try.prog E (CxE.no) ctC_t (fun _ => none) := ⟨(lf0_ok (cf_sp h)), noI_ok _ _ _⟩
theorem ctC_x {E : Env} (h : E.ok) : CxEOk Try.prog E (CxE.no) := CxE.no_ok _ _
theorem ctC_cx (E : Env) (h : E.ok) (h1 : E.lo = 0) (h2 : E.hi = 1000000000000000) : Cx.ok ctC Try.prog E := ⟨tt_ok, qt_ok, bt_ok, ctC_si h, h, h1, h2, mixed_ok, ctC_x h⟩
theorem ctC_from (lo hi : Nat) (E : Env) (h : E.ok) (h1 : E.lo = lo) (h2 : E.hi = hi) : Cx.ok (Cx.from ctC lo hi) Try.prog E := ⟨tt_ok, qt_ok, bt_ok, ctC_si h, h, h1, h2, mixed_ok, ctC_x h⟩
theorem ct_fn : hasFn Try.prog 78 := ⟨_, Try.func78, by rfl, by rfl⟩
theorem ct_sp0 {E : Env} (hE : E.ok) : SpecOk Try.prog E 78 (fnSpec ctAs [.bool] [] (fun _ => True) fun x y => y.1 = inL x.1 x.2.1 x.2.2.1 x.2.2.2.1) := by
  refine spec_of_vc (C := ctC) ct_fn Try.func78 (by kernel_rfl) ctC_cx (fun x hl hx => ?_) hE
  obtain ⟨l, ⟨f, h, lo, u⟩, pr, port, u3⟩ := x
  cbv
  (repeat' (first | ((with_reducible refine And.intro (fun h => ?_) (fun h => ?_)) <;> (first | with_reducible exact (tf h (by assumption)).elim | with_reducible exact (tf (by assumption) h).elim | cbv)) | ((with_reducible first | refine Cb.mk ?_ | refine Lz.mk ?_ | refine JoinT.left ?_ | refine AllT.mk (fun x hx => ?_)); cbv) | ((with_reducible refine Ob.mk (fun _ => ?_) ?_); rotate_left 1) | (with_reducible first | refine Mg.mk (Exists.intro ?_ (And.intro ?_ ?_)) | rfl | refine Fin.mk ?_ | exact True.intro | refine And.intro ?_ ?_)))
  all_goals first | (with_reducible show (∃ _, unr _ _ _ _ _ _); skip) | (with_reducible show Goes _ _ _ _; skip) | (with_reducible show JoinT _ _ _ _ _ _; skip) | (first | ((try dsimp only [Shp.D, Shp.Ds, Shp.dflt] at *); simp only [vem, veq, ne_eq, cmpI, arI, dvI, shI, SV.den, obLt, elemAt, obApp, partL, obPart, lowD, highD, mxOk, convL_self, zerosB, List.length_replicate, vln] at *; (try dsimp only [Shp.D, Shp.Ds, Shp.dflt, Shp.dflts] at *); done) | ((try dsimp only [Shp.D, Shp.Ds, Shp.dflt] at *); simp only [vem, veq, ne_eq, cmpI, arI, dvI, shI, SV.den, obLt, elemAt, obApp, partL, obPart, lowD, highD, mxOk, convL_self, zerosB, List.length_replicate, vln] at *; (try dsimp only [Shp.D, Shp.Ds, Shp.dflt, Shp.dflts] at *); omega) | ((try dsimp only [Shp.D, Shp.Ds, Shp.dflt] at *); simp only [vem, veq, ne_eq, cmpI, arI, dvI, shI, SV.den, obLt, elemAt, obApp, partL, obPart, lowD, highD, mxOk, convL_self, zerosB, List.length_replicate, vln] at *; (try dsimp only [Shp.D, Shp.Ds, Shp.dflt, Shp.dflts] at *); exact hx.1))
theorem ct_sp {E : Env} (hE : E.ok) : SpecOk Try.prog E 78 ctFn := fnFn_of (ct_sp0 hE) fun x y h => by rw [← h]
end Go.Proofs.Ytiinlanpinanhaa.V
