/- Contracts: packets within selectors, the document's answer. -/
import Derived.Test.YtiinlanpinanhaaVNp
set_option linter.unusedVariables false
set_option linter.unusedSimpArgs false
namespace Go.Proofs.Ytiinlanpinanhaa.V
open Go.RowKit
set_option maxHeartbeats 8000000
set_option maxRecDepth 100000
abbrev rpoFn : Spec := fnFn [selE] [.int .i64, .int .i64] (fun _ => True) fun x => (qlo (toSel x.1), qhi (toSel x.1), ())
theorem rpo_fn : hasFn Try.prog 114 := ⟨_, Try.func114, by rfl, by rfl⟩
theorem rpo_sp {E : Env} (hE : E.ok) : SpecOk Try.prog E 114 rpoFn := by
  refine fnFn_of (pre := fun _ => True) (post := fun (x : Shp.Ds [selE]) (y : Shp.Ds [.int .i64, .int .i64]) => y.1 = qlo (toSel x.1) ∧ y.2.1 = qhi (toSel x.1)) ?_ fun x y h => by rw [← h.1, ← h.2]
  refine spec_of_vc (C := noC) rpo_fn Try.func114 (by kernel_rfl) noC_cx (fun x hl hx => ?_) hE
  obtain ⟨⟨p, a, b, ⟨f, h, l, u⟩, ⟨f', h', l', u'⟩, u1⟩, u2⟩ := x
  cbv
  (repeat' (first | ((with_reducible refine And.intro (fun h => ?_) (fun h => ?_)) <;> (first | with_reducible exact (tf h (by assumption)).elim | with_reducible exact (tf (by assumption) h).elim | cbv)) | ((with_reducible first | refine Cb.mk ?_ | refine Lz.mk ?_ | refine JoinT.left ?_ | refine AllT.mk (fun x hx => ?_)); cbv) | ((with_reducible refine Ob.mk (fun _ => ?_) ?_); rotate_left 1) | (with_reducible first | refine Mg.mk (Exists.intro ?_ (And.intro ?_ ?_)) | rfl | refine Fin.mk ?_ | exact True.intro | refine And.intro ?_ ?_)))
  all_goals first | (with_reducible show (∃ _, unr _ _ _ _ _ _); skip) | (with_reducible show Goes _ _ _ _; skip) | (with_reducible show JoinT _ _ _ _ _ _; skip) | (first | ((try dsimp only [Shp.D, Shp.Ds, Shp.dflt] at *); simp only [vem, veq, ne_eq, cmpI, arI, dvI, shI, SV.den, obLt, elemAt, obApp, partL, obPart, lowD, highD, mxOk, convL_self, zerosB, List.length_replicate, vln] at *; (try dsimp only [Shp.D, Shp.Ds, Shp.dflt, Shp.dflts] at *); done) | ((try dsimp only [Shp.D, Shp.Ds, Shp.dflt] at *); simp only [vem, veq, ne_eq, cmpI, arI, dvI, shI, SV.den, obLt, elemAt, obApp, partL, obPart, lowD, highD, mxOk, convL_self, zerosB, List.length_replicate, vln] at *; (try dsimp only [Shp.D, Shp.Ds, Shp.dflt, Shp.dflts] at *); simp_all [qlo, qhi, opq, alls, toSel]; done) | ((try dsimp only [Shp.D, Shp.Ds, Shp.dflt] at *); simp only [vem, veq, ne_eq, cmpI, arI, dvI, shI, SV.den, obLt, elemAt, obApp, partL, obPart, lowD, highD, mxOk, convL_self, zerosB, List.length_replicate, vln] at *; (try dsimp only [Shp.D, Shp.Ds, Shp.dflt, Shp.dflts] at *); simp_all [qlo, qhi, opq, alls, toSel]; omega))
def btw (a lo hi : Adr) : Bool := decide (a.fam = lo.fam) && (!less a lo && !less hi a)
abbrev btwFn : Spec := fnFn [adrE, adrE, adrE] [.bool] (fun _ => True) fun x => (btw (toAdr x.1) (toAdr x.2.1) (toAdr x.2.2.1), ())
theorem rless_fs {E : Env} (hE : E.ok) : SpecOk Try.prog E 38 lessFn := fnFn_of (rless_sp hE) fun x y h => by rw [← h]
def btC_t : SpecT := lf0 38 (lessFn)
def btC : Cx := ⟨tt, qt, bt, st, btC_t, 0, 1000000000000000, fun _ => none, false, CxE.no⟩
theorem btC_si {E : Env} (h : E.ok) : SpecsOk Try.prog E (CxE.no) btC_t (fun _ => none) := ⟨(lf0_ok (rless_fs h)), noI_ok _ _ _⟩
theorem btC_x {E : Env} (h : E.ok) : CxEOk Try.prog E (CxE.no) := CxE.no_ok _ _
theorem btC_cx (E : Env) (h : E.ok) (h1 : E.lo = 0) (h2 : E.hi = 1000000000000000) : Cx.ok btC Try.prog E := ⟨tt_ok, qt_ok, bt_ok, btC_si h, h, h1, h2, mixed_ok, btC_x h⟩
theorem btC_from (lo hi : Nat) (E : Env) (h : E.ok) (h1 : E.lo = lo) (h2 : E.hi = hi) : Cx.ok (Cx.from btC lo hi) Try.prog E := ⟨tt_ok, qt_ok, bt_ok, btC_si h, h, h1, h2, mixed_ok, btC_x h⟩
theorem btw_fn : hasFn Try.prog 94 := ⟨_, Try.func94, by rfl, by rfl⟩
theorem btw_sp {E : Env} (hE : E.ok) : SpecOk Try.prog E 94 btwFn := by
  refine fnFn_of (pre := fun _ => True) (post := fun (x : Shp.Ds [adrE, adrE, adrE]) (y : Shp.Ds [.bool]) => y.1 = btw (toAdr x.1) (toAdr x.2.1) (toAdr x.2.2.1)) ?_ fun x y h => by rw [← h]
  refine spec_of_vc (C := btC) btw_fn Try.func94 (by kernel_rfl) btC_cx (fun x hl hx => ?_) hE
  obtain ⟨⟨f, h, l, u⟩, ⟨f', h', l', u'⟩, ⟨f2, h2, l2, u2⟩, u1⟩ := x
  cbv
  (repeat' (first | ((with_reducible refine And.intro (fun h => ?_) (fun h => ?_)) <;> (first | with_reducible exact (tf h (by assumption)).elim | with_reducible exact (tf (by assumption) h).elim | cbv)) | ((with_reducible first | refine Cb.mk ?_ | refine Lz.mk ?_ | refine JoinT.left ?_ | refine AllT.mk (fun x hx => ?_)); cbv) | ((with_reducible refine Ob.mk (fun _ => ?_) ?_); rotate_left 1) | (with_reducible first | refine Mg.mk (Exists.intro ?_ (And.intro ?_ ?_)) | rfl | refine Fin.mk ?_ | exact True.intro | refine And.intro ?_ ?_)))
  all_goals first | (with_reducible show (∃ _, unr _ _ _ _ _ _); skip) | (with_reducible show Goes _ _ _ _; skip) | (with_reducible show JoinT _ _ _ _ _ _; skip) | (first | ((try dsimp only [Shp.D, Shp.Ds, Shp.dflt] at *); simp only [vem, veq, ne_eq, cmpI, arI, dvI, shI, SV.den, obLt, elemAt, obApp, partL, obPart, lowD, highD, mxOk, convL_self, zerosB, List.length_replicate, vln] at *; (try dsimp only [Shp.D, Shp.Ds, Shp.dflt, Shp.dflts] at *); done) | ((try dsimp only [Shp.D, Shp.Ds, Shp.dflt] at *); simp only [vem, veq, ne_eq, cmpI, arI, dvI, shI, SV.den, obLt, elemAt, obApp, partL, obPart, lowD, highD, mxOk, convL_self, zerosB, List.length_replicate, vln] at *; (try dsimp only [Shp.D, Shp.Ds, Shp.dflt, Shp.dflts] at *); simp_all [btw, toAdr]; done))
def hasR (s : Sel) (a : Adr) (pr port : Int) : Bool := btw a s.lo s.hi && (decide (s.pr = 0) || decide (s.pr = pr)) && decide (qlo s ≤ port) && decide (port ≤ qhi s)
theorem hasR_eq {s : Sel} {a : Adr} (hs : s.ok) (ha : a.ok) (pr port : Int) : hasR s a pr port = has s a pr port := by
  rw [Bool.eq_iff_iff, has_iff hs ha]
  simp only [hasR, btw, less_key ha hs.lo, less_key hs.hi ha, Bool.and_eq_true, Bool.or_eq_true, decide_eq_true_eq, Bool.not_eq_true', decide_eq_false_iff_not, Int.not_lt]
  constructor
  · rintro ⟨⟨⟨⟨h1, h2, h3⟩, h4⟩, h5⟩, h6⟩; exact ⟨h1, h2, h3, h4, h5, h6⟩
  · rintro ⟨h1, h2, h3, h4, h5, h6⟩; exact ⟨⟨⟨⟨h1, h2, h3⟩, h4⟩, h5⟩, h6⟩
abbrev rhasFn : Spec := fnFn hasAs [.bool] (fun _ => True) fun x => (hasR (toSel x.1) (toAdr x.2.1) x.2.2.1 x.2.2.2.1, ())
def rhC_t : SpecT := nd0 114 (lf0 94 (btwFn)) (lf0 114 (rpoFn))
def rhC : Cx := ⟨tt, qt, bt, st, rhC_t, 0, 1000000000000000, fun _ => none, false, CxE.no⟩
theorem rhC_si {E : Env} (h : E.ok) : SpecsOk Try.prog E (CxE.no) rhC_t (fun _ => none) := ⟨(nd0_ok (lf0_ok (btw_sp h)) (lf0_ok (rpo_sp h))), noI_ok _ _ _⟩
theorem rhC_x {E : Env} (h : E.ok) : CxEOk Try.prog E (CxE.no) := CxE.no_ok _ _
theorem rhC_cx (E : Env) (h : E.ok) (h1 : E.lo = 0) (h2 : E.hi = 1000000000000000) : Cx.ok rhC Try.prog E := ⟨tt_ok, qt_ok, bt_ok, rhC_si h, h, h1, h2, mixed_ok, rhC_x h⟩
theorem rhC_from (lo hi : Nat) (E : Env) (h : E.ok) (h1 : E.lo = lo) (h2 : E.hi = hi) : Cx.ok (Cx.from rhC lo hi) Try.prog E := ⟨tt_ok, qt_ok, bt_ok, rhC_si h, h, h1, h2, mixed_ok, rhC_x h⟩
theorem rhas_fn : hasFn Try.prog 103 := ⟨_, Try.func103, by rfl, by rfl⟩
theorem rhas_sp {E : Env} (hE : E.ok) : SpecOk Try.prog E 103 rhasFn := by
  refine fnFn_of (pre := fun _ => True) (post := fun (x : Shp.Ds hasAs) (y : Shp.Ds [.bool]) => y.1 = hasR (toSel x.1) (toAdr x.2.1) x.2.2.1 x.2.2.2.1) ?_ fun x y h => by rw [← h]
  refine spec_of_vc (C := rhC) rhas_fn Try.func103 (by kernel_rfl) rhC_cx (fun x hl hx => ?_) hE
  obtain ⟨⟨p, a, b, ⟨f, h, l, u⟩, ⟨f', h', l', u'⟩, u1⟩, ⟨f2, h2, l2, u2⟩, pr, port, u3⟩ := x
  cbv
  (repeat' (first | ((with_reducible refine And.intro (fun h => ?_) (fun h => ?_)) <;> (first | with_reducible exact (tf h (by assumption)).elim | with_reducible exact (tf (by assumption) h).elim | cbv)) | ((with_reducible first | refine Cb.mk ?_ | refine Lz.mk ?_ | refine JoinT.left ?_ | refine AllT.mk (fun x hx => ?_)); cbv) | ((with_reducible refine Ob.mk (fun _ => ?_) ?_); rotate_left 1) | (with_reducible first | refine Mg.mk (Exists.intro ?_ (And.intro ?_ ?_)) | rfl | refine Fin.mk ?_ | exact True.intro | refine And.intro ?_ ?_)))
  all_goals first | (with_reducible show (∃ _, unr _ _ _ _ _ _); skip) | (with_reducible show Goes _ _ _ _; skip) | (with_reducible show JoinT _ _ _ _ _ _; skip) | (first | ((try dsimp only [Shp.D, Shp.Ds, Shp.dflt] at *); simp only [vem, veq, ne_eq, cmpI, arI, dvI, shI, SV.den, obLt, elemAt, obApp, partL, obPart, lowD, highD, mxOk, convL_self, zerosB, List.length_replicate, vln] at *; (try dsimp only [Shp.D, Shp.Ds, Shp.dflt, Shp.dflts] at *); done) | ((try dsimp only [Shp.D, Shp.Ds, Shp.dflt] at *); simp only [vem, veq, ne_eq, cmpI, arI, dvI, shI, SV.den, obLt, elemAt, obApp, partL, obPart, lowD, highD, mxOk, convL_self, zerosB, List.length_replicate, vln] at *; (try dsimp only [Shp.D, Shp.Ds, Shp.dflt, Shp.dflts] at *); simp_all [hasR, toSel, toAdr]; done) | ((try dsimp only [Shp.D, Shp.Ds, Shp.dflt] at *); simp only [vem, veq, ne_eq, cmpI, arI, dvI, shI, SV.den, obLt, elemAt, obApp, partL, obPart, lowD, highD, mxOk, convL_self, zerosB, List.length_replicate, vln] at *; (try dsimp only [Shp.D, Shp.Ds, Shp.dflt, Shp.dflts] at *); symm; simp only [hasR, Bool.and_eq_false_iff, decide_eq_false_iff_not]; exact .inl (.inr h)))
/-- A packet within selectors, the document's answer. -/
def inR (l : List SelT) (a : AdrT) (pr port : Int) : Bool := l.any fun s => hasR (toSel s) (toAdr a) pr port
theorem inR_eq {l : List SelT} {a : AdrT} (hl : ∀ s ∈ l, (toSel s).ok) (ha : (toAdr a).ok) (pr port : Int) : inR l a pr port = inL l a pr port := by
  unfold inR inL
  rw [Bool.eq_iff_iff]
  simp only [List.any_eq_true]
  exact ⟨fun ⟨s, h1, h2⟩ => ⟨s, h1, by rw [← hasR_eq (hl s h1) ha]; exact h2⟩, fun ⟨s, h1, h2⟩ => ⟨s, h1, by rw [hasR_eq (hl s h1) ha]; exact h2⟩⟩
theorem inR_yes {l : List SelT} {a : AdrT} {pr port : Int} {k : Nat} (hk : k < l.length) (h : hasR (toSel (l.getD k selD0)) (toAdr a) pr port = true) : inR l a pr port = true := by
  unfold inR
  rw [List.any_eq_true]
  refine ⟨l[k], List.getElem_mem hk, ?_⟩
  rw [List.getD_eq_getElem?_getD, List.getElem?_eq_getElem hk] at h
  exact h
theorem inR_next {l : List SelT} {a : AdrT} {pr port : Int} {k : Nat} (hk : k < l.length) (hr : inR (l.drop k) a pr port = inR l a pr port) (h : hasR (toSel (l.getD k selD0)) (toAdr a) pr port = false) : inR (l.drop (k + 1)) a pr port = inR l a pr port := by
  rw [← hr]
  unfold inR
  rw [any_drop l _ selD0 k hk, h, Bool.false_or]
abbrev anyFn : Spec := fnFn ctAs [.bool] (fun _ => True) fun x => (inR x.1 x.2.1 x.2.2.1 x.2.2.2.1, ())
def anC_t : SpecT := lf0 103 (rhasFn)
def anC : Cx := ⟨tt, qt, bt, st, anC_t, 0, 1000000000000000, fun _ => none, false, CxE.no⟩
theorem anC_si {E : Env} (h : E.ok) : SpecsOk Try.prog E (CxE.no) anC_t (fun _ => none) := ⟨(lf0_ok (rhas_sp h)), noI_ok _ _ _⟩
theorem anC_x {E : Env} (h : E.ok) : CxEOk Try.prog E (CxE.no) := CxE.no_ok _ _
theorem anC_cx (E : Env) (h : E.ok) (h1 : E.lo = 0) (h2 : E.hi = 1000000000000000) : Cx.ok anC Try.prog E := ⟨tt_ok, qt_ok, bt_ok, anC_si h, h, h1, h2, mixed_ok, anC_x h⟩
theorem anC_from (lo hi : Nat) (E : Env) (h : E.ok) (h1 : E.lo = lo) (h2 : E.hi = hi) : Cx.ok (Cx.from anC lo hi) Try.prog E := ⟨tt_ok, qt_ok, bt_ok, anC_si h, h, h1, h2, mixed_ok, anC_x h⟩
theorem any_fn : hasFn Try.prog 79 := ⟨_, Try.func79, by rfl, by rfl⟩
theorem any_sp {E : Env} (hE : E.ok) : SpecOk Try.prog E 79 anyFn := by
  refine fnFn_of (pre := fun _ => True) (post := fun (x : Shp.Ds ctAs) (y : Shp.Ds [.bool]) => y.1 = inR x.1 x.2.1 x.2.2.1 x.2.2.2.1) ?_ fun x y h => by rw [← h]
  refine spec_of_vc (C := anC) any_fn Try.func79 (by kernel_rfl) anC_cx (fun x hl hx => ?_) hE
  obtain ⟨l, ⟨f, h, lo, u⟩, pr, port, u3⟩ := x
  have hlen : l.length ≤ 140737488355328 := by simp only [Shp.lims, Shp.lim] at hl; exact hl.1.1
  cbv
  (repeat' (first | ((with_reducible refine And.intro (fun h => ?_) (fun h => ?_)) <;> (first | with_reducible exact (tf h (by assumption)).elim | with_reducible exact (tf (by assumption) h).elim | cbv)) | ((with_reducible first | refine Cb.mk ?_ | refine Lz.mk ?_ | refine JoinT.left ?_ | refine AllT.mk (fun x hx => ?_)); cbv) | ((with_reducible refine Ob.mk (fun _ => ?_) ?_); rotate_left 1) | (with_reducible first | refine Mg.mk (Exists.intro ?_ (And.intro ?_ ?_)) | rfl | refine Fin.mk ?_ | exact True.intro | refine And.intro ?_ ?_)))
  with_reducible refine loop_hv [] (rangeN 10 14) [] [] (fun z b t y => 0 ≤ z 9 ∧ z 9 ≤ (l.length : Int) ∧ inR (l.drop (z 9).toNat) (f, h, lo, u) pr port = inR l (f, h, lo, u) pr port) (fun z b t y => ((l.length : Int) - z 9).toNat) (by cbv) (by cbv) ?_ ?_ (fun z1 b1 t1 u1 y1 R1 hP1 hR1 => ?_)
  · refine EndOk.mk (by cbv) (by cbv) (by cbv; repeat' (first | exact True.intro | exact rfl | with_reducible refine And.intro ?_ ?_)) (by cbv; repeat' (first | exact True.intro | exact rfl | with_reducible refine And.intro ?_ ?_)) (by cbv; repeat' (first | exact True.intro | exact rfl | with_reducible refine And.intro ?_ ?_))
  · intro zq bq tq yq hUq
    have q9 := hUq.z 9
    cbv at q9
    replace q9 := q9.eq
    simp only [atI, vem, veq, ne_eq, cmpI, arI, dvI, shI, SV.den] at q9
    clear hUq
    try dsimp only [Shp.D, Shp.Ds, Shp.dflt] at *
    try simp only [vem, veq, ne_eq, cmpI, arI, dvI, shI, SV.den, convL_self] at *
    rw [← q9]
    exact ⟨by omega, by omega, rfl⟩
  obtain ⟨p1, p2, p3⟩ := hP1
  cbv
  (repeat' (first | ((with_reducible refine And.intro (fun h => ?_) (fun h => ?_)) <;> (first | with_reducible exact (tf h (by assumption)).elim | with_reducible exact (tf (by assumption) h).elim | cbv)) | ((with_reducible first | refine Cb.mk ?_ | refine Lz.mk ?_ | refine JoinT.left ?_ | refine AllT.mk (fun x hx => ?_)); cbv) | ((with_reducible refine Ob.mk (fun _ => ?_) ?_); rotate_left 1) | (with_reducible first | refine Mg.mk (Exists.intro ?_ (And.intro ?_ ?_)) | rfl | refine Fin.mk ?_ | exact True.intro | refine And.intro ?_ ?_)))
  all_goals first | (with_reducible show Goes _ _ _ _; skip) | (clear hR1)
  all_goals first | (with_reducible show (∃ _, unr _ _ _ _ _ _); skip) | (with_reducible show Goes _ _ _ _; skip) | (with_reducible show JoinT _ _ _ _ _ _; skip) | (first | ((try dsimp only [Shp.D, Shp.Ds, Shp.dflt] at *); simp only [vem, veq, ne_eq, cmpI, arI, dvI, shI, SV.den, obLt, elemAt, obApp, partL, obPart, lowD, highD, mxOk, convL_self, zerosB, List.length_replicate, vln] at *; (try dsimp only [Shp.D, Shp.Ds, Shp.dflt, Shp.dflts] at *); done) | ((try dsimp only [Shp.D, Shp.Ds, Shp.dflt] at *); simp only [vem, veq, ne_eq, cmpI, arI, dvI, shI, SV.den, obLt, elemAt, obApp, partL, obPart, lowD, highD, mxOk, convL_self, zerosB, List.length_replicate, vln] at *; (try dsimp only [Shp.D, Shp.Ds, Shp.dflt, Shp.dflts] at *); omega) | ((try dsimp only [Shp.D, Shp.Ds, Shp.dflt] at *); simp only [vem, veq, ne_eq, cmpI, arI, dvI, shI, SV.den, obLt, elemAt, obApp, partL, obPart, lowD, highD, mxOk, convL_self, zerosB, List.length_replicate, vln] at *; (try dsimp only [Shp.D, Shp.Ds, Shp.dflt, Shp.dflts] at *); exact (inR_yes (k := (z1 9).toNat) (by omega) (by assumption)).symm) | ((try dsimp only [Shp.D, Shp.Ds, Shp.dflt] at *); simp only [vem, veq, ne_eq, cmpI, arI, dvI, shI, SV.den, obLt, elemAt, obApp, partL, obPart, lowD, highD, mxOk, convL_self, zerosB, List.length_replicate, vln] at *; (try dsimp only [Shp.D, Shp.Ds, Shp.dflt, Shp.dflts] at *); rw [List.drop_eq_nil_of_le (by omega)] at p3; rw [← p3]; rfl))
  with_reducible refine hR1 _ ?_ (fun zq bq tq yq hUq => ?_)
  · refine EndOk.mk (by cbv) (by cbv) (by cbv; repeat' (first | exact True.intro | exact rfl | with_reducible refine And.intro ?_ ?_)) (by cbv; repeat' (first | exact True.intro | exact rfl | with_reducible refine And.intro ?_ ?_)) (by cbv; repeat' (first | exact True.intro | exact rfl | with_reducible refine And.intro ?_ ?_))
  have q9 := hUq.z 9
  cbv at q9
  replace q9 := q9.eq
  simp only [atI, vem, veq, ne_eq, cmpI, arI, dvI, shI, SV.den] at q9
  clear hUq hR1
  try dsimp only [Shp.D, Shp.Ds, Shp.dflt] at *
  try simp only [vem, veq, ne_eq, cmpI, arI, dvI, shI, SV.den, elemAt, convL_self] at *
  try dsimp only [Shp.D, Shp.Ds, Shp.dflt, Shp.dflts] at *
  refine ⟨⟨by omega, by omega, ?_⟩, by omega⟩
  rw [show (zq 9).toNat = (z1 9).toNat + 1 by omega]
  exact inR_next (by omega) p3 (by assumption)
def withinR (l r : List SelT) (p : PktT) (out : Bool) : Bool := match out with
  | true => inR l p.1 p.2.2.1 p.2.2.2.1 && inR r p.2.1 p.2.2.1 p.2.2.2.2.1
  | false => inR l p.2.1 p.2.2.1 p.2.2.2.2.1 && inR r p.1 p.2.2.1 p.2.2.2.1
theorem withinR_eq {l r : List SelT} {p : PktT} (hl : ∀ s ∈ l, (toSel s).ok) (hr : ∀ s ∈ r, (toSel s).ok) (h1 : (toAdr p.1).ok) (h2 : (toAdr p.2.1).ok) (out : Bool) : withinR l r p out = withinF l r p out := by
  cases out
  · simp only [withinR, withinF, inR_eq hl h2, inR_eq hr h1]
  · simp only [withinR, withinF, inR_eq hl h1, inR_eq hr h2]
abbrev rwithinFn : Spec := fnFn wiAs [.bool] (fun _ => True) fun x => (withinR x.1 x.2.1 x.2.2.1 x.2.2.2.1, ())
def rwC_t : SpecT := lf0 79 (anyFn)
def rwC : Cx := ⟨tt, qt, bt, st, rwC_t, 0, 1000000000000000, fun _ => none, false, CxE.no⟩
theorem rwC_si {E : Env} (h : E.ok) : SpecsOk Try.prog E (CxE.no) rwC_t (fun _ => none) := ⟨(lf0_ok (any_sp h)), noI_ok _ _ _⟩
theorem rwC_x {E : Env} (h : E.ok) : CxEOk Try.prog E (CxE.no) := CxE.no_ok _ _
theorem rwC_cx (E : Env) (h : E.ok) (h1 : E.lo = 0) (h2 : E.hi = 1000000000000000) : Cx.ok rwC Try.prog E := ⟨tt_ok, qt_ok, bt_ok, rwC_si h, h, h1, h2, mixed_ok, rwC_x h⟩
theorem rwC_from (lo hi : Nat) (E : Env) (h : E.ok) (h1 : E.lo = lo) (h2 : E.hi = hi) : Cx.ok (Cx.from rwC lo hi) Try.prog E := ⟨tt_ok, qt_ok, bt_ok, rwC_si h, h, h1, h2, mixed_ok, rwC_x h⟩
theorem rwi_fn : hasFn Try.prog 40 := ⟨_, Try.func40, by rfl, by rfl⟩
theorem rwi_sp {E : Env} (hE : E.ok) : SpecOk Try.prog E 40 rwithinFn := by
  refine fnFn_of (pre := fun _ => True) (post := fun (x : Shp.Ds wiAs) (y : Shp.Ds [.bool]) => y.1 = withinR x.1 x.2.1 x.2.2.1 x.2.2.2.1) ?_ fun x y h => by rw [← h]
  refine spec_of_vc (C := rwC) rwi_fn Try.func40 (by kernel_rfl) rwC_cx (fun x hl hx => ?_) hE
  obtain ⟨l, r, ⟨⟨f, h, lo, u⟩, ⟨f', h', lo', u'⟩, pr, sp, tp, u1⟩, out, u2⟩ := x
  cbv
  (repeat' (first | ((with_reducible refine And.intro (fun h => ?_) (fun h => ?_)) <;> (first | with_reducible exact (tf h (by assumption)).elim | with_reducible exact (tf (by assumption) h).elim | cbv)) | ((with_reducible first | refine Cb.mk ?_ | refine Lz.mk ?_ | refine JoinT.left ?_ | refine AllT.mk (fun x hx => ?_)); cbv) | ((with_reducible refine Ob.mk (fun _ => ?_) ?_); rotate_left 1) | (with_reducible first | refine Mg.mk (Exists.intro ?_ (And.intro ?_ ?_)) | rfl | refine Fin.mk ?_ | exact True.intro | refine And.intro ?_ ?_)))
  all_goals first | (with_reducible show (∃ _, unr _ _ _ _ _ _); skip) | (with_reducible show Goes _ _ _ _; skip) | (with_reducible show JoinT _ _ _ _ _ _; skip) | (first | ((try dsimp only [Shp.D, Shp.Ds, Shp.dflt] at *); simp only [vem, veq, ne_eq, cmpI, arI, dvI, shI, SV.den, obLt, elemAt, obApp, partL, obPart, lowD, highD, mxOk, convL_self, zerosB, List.length_replicate, vln] at *; (try dsimp only [Shp.D, Shp.Ds, Shp.dflt, Shp.dflts] at *); done) | ((try dsimp only [Shp.D, Shp.Ds, Shp.dflt] at *); simp only [vem, veq, ne_eq, cmpI, arI, dvI, shI, SV.den, obLt, elemAt, obApp, partL, obPart, lowD, highD, mxOk, convL_self, zerosB, List.length_replicate, vln] at *; (try dsimp only [Shp.D, Shp.Ds, Shp.dflt, Shp.dflts] at *); simp_all [withinR]; done))
end Go.Proofs.Ytiinlanpinanhaa.V
