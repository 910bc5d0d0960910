/- Contracts: selectors are checked and written. -/
import Derived.Test.YtiinlanpinanhaaVB
import Derived.Test.YtiinlanpinanhaaVP
set_option linter.unusedVariables false
set_option linter.unusedSimpArgs false
namespace Go.Proofs.Ytiinlanpinanhaa.V
open Go.RowKit
set_option maxHeartbeats 8000000
set_option maxRecDepth 100000
abbrev validSp : Spec := fnSpec [adrE] [.bool] [] (fun _ => True) fun x y => y.1 = valid (toAdr x.1)
abbrev lessSp : Spec := fnSpec [adrE, adrE] [.bool] [] (fun _ => True) fun x y => y.1 = less (toAdr x.1) (toAdr x.2.1)
theorem svalid_fn : hasFn Try.prog 35 := ⟨_, Try.func35, by rfl, by rfl⟩
theorem svalid_sp {E : Env} (hE : E.ok) : SpecOk Try.prog E 35 validSp := by
  refine spec_of_vc (C := noC) svalid_fn Try.func35 (by kernel_rfl) noC_cx (fun x hl hx => ?_) hE
  obtain ⟨⟨f, h, l, u⟩, u'⟩ := x
  cbv
  (repeat' (first | ((with_reducible refine And.intro (fun h => ?_) (fun h => ?_)) <;> (first | with_reducible exact (tf h (by assumption)).elim | with_reducible exact (tf (by assumption) h).elim | cbv)) | ((with_reducible first | refine Cb.mk ?_ | refine Lz.mk ?_ | refine JoinT.left ?_ | refine AllT.mk (fun x hx => ?_)); cbv) | ((with_reducible refine Ob.mk (fun _ => ?_) ?_); rotate_left 1) | (with_reducible first | refine Mg.mk (Exists.intro ?_ (And.intro ?_ ?_)) | rfl | refine Fin.mk ?_ | exact True.intro | refine And.intro ?_ ?_)))
  all_goals ((try dsimp only [Shp.D, Shp.Ds, Shp.dflt] at *); simp only [vem, veq, ne_eq, cmpI, arI, dvI, shI, SV.den, obLt, elemAt, obApp, partL, obPart, lowD, highD, mxOk, convL_self, zerosB, List.length_replicate, vln] at *; (try dsimp only [Shp.D, Shp.Ds, Shp.dflt, Shp.dflts] at *); simp [valid, toAdr, *])
  all_goals first | rfl | (by_cases h6 : f = 6 <;> simp [*]) | skip
theorem rless_fn : hasFn Try.prog 38 := ⟨_, Try.func38, by rfl, by rfl⟩
theorem rless_sp {E : Env} (hE : E.ok) : SpecOk Try.prog E 38 lessSp := by
  refine spec_of_vc (C := noC) rless_fn Try.func38 (by kernel_rfl) noC_cx (fun x hl hx => ?_) hE
  obtain ⟨⟨f, h, l, u⟩, ⟨f', h', l', u'⟩, u''⟩ := x
  cbv
  (repeat' (first | ((with_reducible refine And.intro (fun h => ?_) (fun h => ?_)) <;> (first | with_reducible exact (tf h (by assumption)).elim | with_reducible exact (tf (by assumption) h).elim | cbv)) | ((with_reducible first | refine Cb.mk ?_ | refine Lz.mk ?_ | refine JoinT.left ?_ | refine AllT.mk (fun x hx => ?_)); cbv) | ((with_reducible refine Ob.mk (fun _ => ?_) ?_); rotate_left 1) | (with_reducible first | refine Mg.mk (Exists.intro ?_ (And.intro ?_ ?_)) | rfl | refine Fin.mk ?_ | exact True.intro | refine And.intro ?_ ?_)))
  all_goals ((try dsimp only [Shp.D, Shp.Ds, Shp.dflt] at *); simp only [vem, veq, ne_eq, cmpI, arI, dvI, shI, SV.den, obLt, elemAt, obApp, partL, obPart, lowD, highD, mxOk, convL_self, zerosB, List.length_replicate, vln] at *; (try dsimp only [Shp.D, Shp.Ds, Shp.dflt, Shp.dflts] at *); simp [less, toAdr, *])
  all_goals exact decide_eq_decide.2 Iff.rfl
theorem pless_fn : hasFn Try.prog 77 := ⟨_, Try.func77, by rfl, by rfl⟩
theorem pless_sp {E : Env} (hE : E.ok) : SpecOk Try.prog E 77 (fnSpec [.st [adrE], .st [adrE]] [.bool] [] (fun _ => True) fun x y => y.1 = less (toAdr x.1.1) (toAdr x.2.1.1)) := by
  refine spec_of_vc (C := noC) pless_fn Try.func77 (by kernel_rfl) noC_cx (fun x hl hx => ?_) hE
  obtain ⟨⟨⟨f, h, l, u⟩, u1⟩, ⟨⟨f', h', l', u'⟩, u2⟩, u''⟩ := x
  cbv
  (repeat' (first | ((with_reducible refine And.intro (fun h => ?_) (fun h => ?_)) <;> (first | with_reducible exact (tf h (by assumption)).elim | with_reducible exact (tf (by assumption) h).elim | cbv)) | ((with_reducible first | refine Cb.mk ?_ | refine Lz.mk ?_ | refine JoinT.left ?_ | refine AllT.mk (fun x hx => ?_)); cbv) | ((with_reducible refine Ob.mk (fun _ => ?_) ?_); rotate_left 1) | (with_reducible first | refine Mg.mk (Exists.intro ?_ (And.intro ?_ ?_)) | rfl | refine Fin.mk ?_ | exact True.intro | refine And.intro ?_ ?_)))
  all_goals ((try dsimp only [Shp.D, Shp.Ds, Shp.dflt] at *); simp only [vem, veq, ne_eq, cmpI, arI, dvI, shI, SV.den, obLt, elemAt, obApp, partL, obPart, lowD, highD, mxOk, convL_self, zerosB, List.length_replicate, vln] at *; (try dsimp only [Shp.D, Shp.Ds, Shp.dflt, Shp.dflts] at *); simp [less, toAdr, *])
  all_goals exact decide_eq_decide.2 Iff.rfl
def lsC_t : SpecT := lf0 77 (fnSpec [.st [adrE], .st [adrE]] [.bool] [] (fun _ => True) (fun x y => y.1 = less (toAdr x.1.1) (toAdr x.2.1.1)))
def lsC : Cx := ⟨tt, qt, bt, st, lsC_t, 0, 1000000000000000, fun _ => none, false, CxE.no⟩
theorem lsC_si {E : Env} (h : E.ok) : SpecsOk Try.prog E (CxE.no) lsC_t (fun _ => none) := ⟨(lf0_ok (pless_sp h)), noI_ok _ _ _⟩
theorem lsC_x {E : Env} (h : E.ok) : CxEOk Try.prog E (CxE.no) := CxE.no_ok _ _
theorem lsC_cx (E : Env) (h : E.ok) (h1 : E.lo = 0) (h2 : E.hi = 1000000000000000) : Cx.ok lsC Try.prog E := ⟨tt_ok, qt_ok, bt_ok, lsC_si h, h, h1, h2, mixed_ok, lsC_x h⟩
theorem lsC_from (lo hi : Nat) (E : Env) (h : E.ok) (h1 : E.lo = lo) (h2 : E.hi = hi) : Cx.ok (Cx.from lsC lo hi) Try.prog E := ⟨tt_ok, qt_ok, bt_ok, lsC_si h, h, h1, h2, mixed_ok, lsC_x h⟩
theorem sless_fn : hasFn Try.prog 37 := ⟨_, Try.func37, by rfl, by rfl⟩
theorem sless_sp {E : Env} (hE : E.ok) : SpecOk Try.prog E 37 lessSp := by
  refine spec_of_vc (C := lsC) sless_fn Try.func37 (by kernel_rfl) lsC_cx (fun x hl hx => ?_) hE
  obtain ⟨⟨f, h, l, u⟩, ⟨f', h', l', u'⟩, u''⟩ := x
  cbv
  (repeat' (first | ((with_reducible refine And.intro (fun h => ?_) (fun h => ?_)) <;> (first | with_reducible exact (tf h (by assumption)).elim | with_reducible exact (tf (by assumption) h).elim | cbv)) | ((with_reducible first | refine Cb.mk ?_ | refine Lz.mk ?_ | refine JoinT.left ?_ | refine AllT.mk (fun x hx => ?_)); cbv) | ((with_reducible refine Ob.mk (fun _ => ?_) ?_); rotate_left 1) | (with_reducible first | refine Mg.mk (Exists.intro ?_ (And.intro ?_ ?_)) | rfl | refine Fin.mk ?_ | exact True.intro | refine And.intro ?_ ?_)))
  all_goals (try dsimp only [Shp.D, Shp.Ds, Shp.dflt] at *); simp only [vem, veq, ne_eq, cmpI, arI, dvI, shI, SV.den, obLt, elemAt, obApp, partL, obPart, lowD, highD, mxOk, convL_self, zerosB, List.length_replicate, vln] at *; (try dsimp only [Shp.D, Shp.Ds, Shp.dflt, Shp.dflts] at *)
  all_goals exact hx.1
theorem sopq_fn : hasFn Try.prog 56 := ⟨_, Try.func56, by rfl, by rfl⟩
theorem sopq_sp {E : Env} (hE : E.ok) : SpecOk Try.prog E 56 (fnSpec [selE] [.bool] [] (fun _ => True) fun x y => y.1 = opq (toSel x.1)) := by
  refine spec_of_vc (C := noC) sopq_fn Try.func56 (by kernel_rfl) noC_cx (fun x hl hx => ?_) hE
  obtain ⟨⟨p, a, b, ⟨f, h, l, u⟩, ⟨f', h', l', u'⟩, u1⟩, u''⟩ := x
  cbv
  (repeat' (first | ((with_reducible refine And.intro (fun h => ?_) (fun h => ?_)) <;> (first | with_reducible exact (tf h (by assumption)).elim | with_reducible exact (tf (by assumption) h).elim | cbv)) | ((with_reducible first | refine Cb.mk ?_ | refine Lz.mk ?_ | refine JoinT.left ?_ | refine AllT.mk (fun x hx => ?_)); cbv) | ((with_reducible refine Ob.mk (fun _ => ?_) ?_); rotate_left 1) | (with_reducible first | refine Mg.mk (Exists.intro ?_ (And.intro ?_ ?_)) | rfl | refine Fin.mk ?_ | exact True.intro | refine And.intro ?_ ?_)))
  all_goals ((try dsimp only [Shp.D, Shp.Ds, Shp.dflt] at *); simp only [vem, veq, ne_eq, cmpI, arI, dvI, shI, SV.den, obLt, elemAt, obApp, partL, obPart, lowD, highD, mxOk, convL_self, zerosB, List.length_replicate, vln] at *; (try dsimp only [Shp.D, Shp.Ds, Shp.dflt, Shp.dflts] at *); simp [opq, toSel, *])
def rckC_t : SpecT := nd0 38 (lf0 36 (validSp)) (lf0 38 (lessSp))
def rckC : Cx := ⟨tt, qt, bt, st, rckC_t, 0, 1000000000000000, fun _ => none, false, CxE.no⟩
theorem rckC_si {E : Env} (h : E.ok) : SpecsOk Try.prog E (CxE.no) rckC_t (fun _ => none) := ⟨(nd0_ok (lf0_ok (rvalid_sp h)) (lf0_ok (rless_sp h))), noI_ok _ _ _⟩
theorem rckC_x {E : Env} (h : E.ok) : CxEOk Try.prog E (CxE.no) := CxE.no_ok _ _
theorem rckC_cx (E : Env) (h : E.ok) (h1 : E.lo = 0) (h2 : E.hi = 1000000000000000) : Cx.ok rckC Try.prog E := ⟨tt_ok, qt_ok, bt_ok, rckC_si h, h, h1, h2, mixed_ok, rckC_x h⟩
theorem rckC_from (lo hi : Nat) (E : Env) (h : E.ok) (h1 : E.lo = lo) (h2 : E.hi = hi) : Cx.ok (Cx.from rckC lo hi) Try.prog E := ⟨tt_ok, qt_ok, bt_ok, rckC_si h, h, h1, h2, mixed_ok, rckC_x h⟩
abbrev chkSp : Spec := fnSpec [selE] [.int .i64] [] (fun _ => True) fun x y => y.1 = chkSel (toSel x.1)
theorem rchk_fn : hasFn Try.prog 34 := ⟨_, Try.func34, by rfl, by rfl⟩
theorem rchk_sp {E : Env} (hE : E.ok) : SpecOk Try.prog E 34 chkSp := by
  refine spec_of_vc (C := rckC) rchk_fn Try.func34 (by kernel_rfl) rckC_cx (fun x hl hx => ?_) hE
  obtain ⟨⟨p, a, b, ⟨f, h, l, u⟩, ⟨f', h', l', u'⟩, u1⟩, u''⟩ := x
  cbv
  (repeat' (first | ((with_reducible refine And.intro (fun h => ?_) (fun h => ?_)) <;> (first | with_reducible exact (tf h (by assumption)).elim | with_reducible exact (tf (by assumption) h).elim | cbv)) | ((with_reducible first | refine Cb.mk ?_ | refine Lz.mk ?_ | refine JoinT.left ?_ | refine AllT.mk (fun x hx => ?_)); cbv) | ((with_reducible refine Ob.mk (fun _ => ?_) ?_); rotate_left 1) | (with_reducible first | refine Mg.mk (Exists.intro ?_ (And.intro ?_ ?_)) | rfl | refine Fin.mk ?_ | exact True.intro | refine And.intro ?_ ?_)))
  all_goals ((try dsimp only [Shp.D, Shp.Ds, Shp.dflt] at *); simp only [vem, veq, ne_eq, cmpI, arI, dvI, shI, SV.den, obLt, elemAt, obApp, partL, obPart, lowD, highD, mxOk, convL_self, zerosB, List.length_replicate, vln] at *; (try dsimp only [Shp.D, Shp.Ds, Shp.dflt, Shp.dflts] at *); simp_all [chkSel, toSel, toAdr, opq])
def sckC_t : SpecT := nd0 37 (lf0 35 (validSp)) (nd0 56 (lf0 37 (lessSp)) (lf0 56 (fnSpec [selE] [.bool] [] (fun _ => True) (fun x y => y.1 = opq (toSel x.1)))))
def sckC : Cx := ⟨tt, qt, bt, st, sckC_t, 0, 1000000000000000, fun _ => none, false, CxE.no⟩
theorem sckC_si {E : Env} (h : E.ok) : SpecsOk Try.prog E (CxE.no) sckC_t (fun _ => none) := ⟨(nd0_ok (lf0_ok (svalid_sp h)) (nd0_ok (lf0_ok (sless_sp h)) (lf0_ok (sopq_sp h)))), noI_ok _ _ _⟩
theorem sckC_x {E : Env} (h : E.ok) : CxEOk Try.prog E (CxE.no) := CxE.no_ok _ _
theorem sckC_cx (E : Env) (h : E.ok) (h1 : E.lo = 0) (h2 : E.hi = 1000000000000000) : Cx.ok sckC Try.prog E := ⟨tt_ok, qt_ok, bt_ok, sckC_si h, h, h1, h2, mixed_ok, sckC_x h⟩
theorem sckC_from (lo hi : Nat) (E : Env) (h : E.ok) (h1 : E.lo = lo) (h2 : E.hi = hi) : Cx.ok (Cx.from sckC lo hi) Try.prog E := ⟨tt_ok, qt_ok, bt_ok, sckC_si h, h, h1, h2, mixed_ok, sckC_x h⟩
theorem schk_fn : hasFn Try.prog 19 := ⟨_, Try.func19, by rfl, by rfl⟩
theorem schk_sp {E : Env} (hE : E.ok) : SpecOk Try.prog E 19 chkSp := by
  refine spec_of_vc (C := sckC) schk_fn Try.func19 (by kernel_rfl) sckC_cx (fun x hl hx => ?_) hE
  obtain ⟨⟨p, a, b, ⟨f, h, l, u⟩, ⟨f', h', l', u'⟩, u1⟩, u''⟩ := x
  cbv
  (repeat' (first | ((with_reducible refine And.intro (fun h => ?_) (fun h => ?_)) <;> (first | with_reducible exact (tf h (by assumption)).elim | with_reducible exact (tf (by assumption) h).elim | cbv)) | ((with_reducible first | refine Cb.mk ?_ | refine Lz.mk ?_ | refine JoinT.left ?_ | refine AllT.mk (fun x hx => ?_)); cbv) | ((with_reducible refine Ob.mk (fun _ => ?_) ?_); rotate_left 1) | (with_reducible first | refine Mg.mk (Exists.intro ?_ (And.intro ?_ ?_)) | rfl | refine Fin.mk ?_ | exact True.intro | refine And.intro ?_ ?_)))
  all_goals ((try dsimp only [Shp.D, Shp.Ds, Shp.dflt] at *); simp only [vem, veq, ne_eq, cmpI, arI, dvI, shI, SV.den, obLt, elemAt, obApp, partL, obPart, lowD, highD, mxOk, convL_self, zerosB, List.length_replicate, vln] at *; (try dsimp only [Shp.D, Shp.Ds, Shp.dflt, Shp.dflts] at *); simp_all [chkSel, toSel, toAdr, opq])
  all_goals trace_state
/-- The first thing that is wrong. -/
def chkAll : List SelT → Int
  | [] => 0
  | s :: l => if chkSel (toSel s) = 0 then chkAll l else chkSel (toSel s)
theorem chkAll_drop (l : List SelT) (k : Nat) (h : k < l.length) : chkAll (l.drop k) = if chkSel (toSel (l.getD k (0, 0, 0, (0, 0, 0, ()), (0, 0, 0, ()), ()))) = 0 then chkAll (l.drop (k + 1)) else chkSel (toSel (l.getD k (0, 0, 0, (0, 0, 0, ()), (0, 0, 0, ()), ()))) := by
  rw [List.drop_eq_getElem_cons h, chkAll, List.getD_eq_getElem?_getD, List.getElem?_eq_getElem h]
  rfl
def scaC_t : SpecT := lf0 19 (chkSp)
def scaC : Cx := ⟨tt, qt, bt, st, scaC_t, 0, 1000000000000000, fun _ => none, false, CxE.no⟩
theorem scaC_si {E : Env} (h : E.ok) : SpecsOk Try.prog E (CxE.no) scaC_t (fun _ => none) := ⟨(lf0_ok (schk_sp h)), noI_ok _ _ _⟩
theorem scaC_x {E : Env} (h : E.ok) : CxEOk Try.prog E (CxE.no) := CxE.no_ok _ _
theorem scaC_cx (E : Env) (h : E.ok) (h1 : E.lo = 0) (h2 : E.hi = 1000000000000000) : Cx.ok scaC Try.prog E := ⟨tt_ok, qt_ok, bt_ok, scaC_si h, h, h1, h2, mixed_ok, scaC_x h⟩
theorem scaC_from (lo hi : Nat) (E : Env) (h : E.ok) (h1 : E.lo = lo) (h2 : E.hi = hi) : Cx.ok (Cx.from scaC lo hi) Try.prog E := ⟨tt_ok, qt_ok, bt_ok, scaC_si h, h, h1, h2, mixed_ok, scaC_x h⟩
theorem sca_fn : hasFn Try.prog 69 := ⟨_, Try.func69, by rfl, by rfl⟩
theorem sca_sp {E : Env} (hE : E.ok) : SpecOk Try.prog E 69 (fnSpec [.sl selE] [.int .i64] [] (fun _ => True) fun x y => y.1 = chkAll x.1) := by
  refine spec_of_vc (C := scaC) sca_fn Try.func69 (by kernel_rfl) scaC_cx (fun x hl hx => ?_) hE
  obtain ⟨l, u⟩ := x
  have hlen : l.length ≤ 140737488355328 := by simp only [Shp.lims, Shp.lim] at hl; exact hl.1.1
  cbv
  (repeat' (first | ((with_reducible refine And.intro (fun h => ?_) (fun h => ?_)) <;> (first | with_reducible exact (tf h (by assumption)).elim | with_reducible exact (tf (by assumption) h).elim | cbv)) | ((with_reducible first | refine Cb.mk ?_ | refine Lz.mk ?_ | refine JoinT.left ?_ | refine AllT.mk (fun x hx => ?_)); cbv) | ((with_reducible refine Ob.mk (fun _ => ?_) ?_); rotate_left 1) | (with_reducible first | refine Mg.mk (Exists.intro ?_ (And.intro ?_ ?_)) | rfl | refine Fin.mk ?_ | exact True.intro | refine And.intro ?_ ?_)))
  with_reducible refine loop_hv [] (4 :: 5 :: rangeN 9 9) [] [] (fun z b t y => 0 ≤ z 8 ∧ z 8 ≤ (l.length : Int) ∧ chkAll (l.drop (z 8).toNat) = chkAll l) (fun z b t y => ((l.length : Int) - z 8).toNat) (by cbv) (by cbv) ?_ ?_ (fun z1 b1 t1 u1 y1 R1 hP1 hR1 => ?_)
  · refine EndOk.mk (by cbv) (by cbv) (by cbv; repeat' (first | exact True.intro | exact rfl | with_reducible refine And.intro ?_ ?_)) (by cbv; repeat' (first | exact True.intro | exact rfl | with_reducible refine And.intro ?_ ?_)) (by cbv; repeat' (first | exact True.intro | exact rfl | with_reducible refine And.intro ?_ ?_))
  · intro zq bq tq yq hUq
    have q8 := hUq.z 8
    cbv at q8
    replace q8 := q8.eq
    simp only [atI, vem, veq, ne_eq, cmpI, arI, dvI, shI, SV.den] at q8
    clear hUq
    try dsimp only [Shp.D, Shp.Ds, Shp.dflt] at *
    try simp only [vem, veq, ne_eq, cmpI, arI, dvI, shI, SV.den, convL_self] at *
    rw [← q8]
    exact ⟨by omega, by omega, rfl⟩
  obtain ⟨p1, p2, p3⟩ := hP1
  cbv
  (repeat' (first | ((with_reducible refine And.intro (fun h => ?_) (fun h => ?_)) <;> (first | with_reducible exact (tf h (by assumption)).elim | with_reducible exact (tf (by assumption) h).elim | cbv)) | ((with_reducible first | refine Cb.mk ?_ | refine Lz.mk ?_ | refine JoinT.left ?_ | refine AllT.mk (fun x hx => ?_)); cbv) | ((with_reducible refine Ob.mk (fun _ => ?_) ?_); rotate_left 1) | (with_reducible first | refine Mg.mk (Exists.intro ?_ (And.intro ?_ ?_)) | rfl | refine Fin.mk ?_ | exact True.intro | refine And.intro ?_ ?_)))
  all_goals first | (with_reducible show Goes _ _ _ _; skip) | (clear hR1)
  all_goals first
    | (with_reducible show Goes _ _ _ _; skip)
    | ((try dsimp only [Shp.D, Shp.Ds, Shp.dflt] at *); simp only [vem, veq, ne_eq, cmpI, arI, dvI, shI, SV.den, obLt, elemAt, obApp, partL, obPart, lowD, highD, mxOk, convL_self, zerosB, List.length_replicate, vln] at *; (try dsimp only [Shp.D, Shp.Ds, Shp.dflt, Shp.dflts] at *); omega)
    | ((try dsimp only [Shp.D, Shp.Ds, Shp.dflt] at *); simp only [vem, veq, ne_eq, cmpI, arI, dvI, shI, SV.den, obLt, elemAt, obApp, partL, obPart, lowD, highD, mxOk, convL_self, zerosB, List.length_replicate, vln] at *; (try dsimp only [Shp.D, Shp.Ds, Shp.dflt, Shp.dflts] at *); skip)
  all_goals first
    | (with_reducible show Goes _ _ _ _; skip)
    | (have e := chkAll_drop l (z1 8).toNat (by omega); rw [p3] at e; have hx1 := hx.1; rw [e, if_neg]; exact hx1; (intro h0; exact ‹¬ _ = (0 : Int)› (hx1.trans h0)))
    | (rw [List.drop_eq_nil_of_le (by omega)] at p3; exact p3)
    | skip
  · with_reducible refine hR1 _ ?_ (fun zq bq tq yq hUq => ?_)
    · refine EndOk.mk (by cbv) (by cbv) (by cbv; repeat' (first | exact True.intro | exact rfl | with_reducible refine And.intro ?_ ?_)) (by cbv; repeat' (first | exact True.intro | exact rfl | with_reducible refine And.intro ?_ ?_)) (by cbv; repeat' (first | exact True.intro | exact rfl | with_reducible refine And.intro ?_ ?_))
    have q8 := hUq.z 8
    cbv at q8
    replace q8 := q8.eq
    simp only [atI, vem, veq, ne_eq, cmpI, arI, dvI, shI, SV.den] at q8
    clear hUq hR1
    try dsimp only [Shp.D, Shp.Ds, Shp.dflt] at *
    try simp only [vem, veq, ne_eq, cmpI, arI, dvI, shI, SV.den, elemAt, convL_self] at *
    try dsimp only [Shp.D, Shp.Ds, Shp.dflt, Shp.dflts] at *
    have e := chkAll_drop l (z1 8).toNat (by omega)
    have hx1 := hx.1
    rw [h] at hx1
    rw [p3, if_pos hx1.symm] at e
    refine ⟨⟨by omega, by omega, ?_⟩, by omega⟩
    rw [show (zq 8).toNat = (z1 8).toNat + 1 by omega]
    exact e.symm
end Go.Proofs.Ytiinlanpinanhaa.V
