/- Contracts: selectors meet; a selector is spoiled. -/
import Derived.Test.YtiinlanpinanhaaVf
import Derived.Test.YtiinlanpinanhaaVW
import Derived.Test.YtiinlanpinanhaaVG
set_option linter.unusedVariables false
set_option linter.unusedSimpArgs false
namespace Go.Proofs.Ytiinlanpinanhaa.V
open Go.RowKit
set_option maxHeartbeats 8000000
set_option maxRecDepth 100000
theorem sall_fn : hasFn Try.prog 57 := ⟨_, Try.func57, by rfl, by rfl⟩
abbrev allSp : Spec := fnSpec [selE] [.bool] [] (fun _ => True) fun x y => y.1 = alls (toSel x.1)
theorem sall_sp {E : Env} (hE : E.ok) : SpecOk Try.prog E 57 allSp := by
  refine spec_of_vc (C := noC) sall_fn Try.func57 (by kernel_rfl) noC_cx (fun x hl hx => ?_) hE
  obtain ⟨⟨p, a, b, ⟨f, h, l, u⟩, ⟨f', h', l', u'⟩, u1⟩, u''⟩ := x
  cbv
  (repeat' (first | ((with_reducible refine And.intro (fun h => ?_) (fun h => ?_)) <;> (first | with_reducible exact (tf h (by assumption)).elim | with_reducible exact (tf (by assumption) h).elim | cbv)) | ((with_reducible first | refine Cb.mk ?_ | refine Lz.mk ?_ | refine JoinT.left ?_ | refine AllT.mk (fun x hx => ?_)); cbv) | ((with_reducible refine Ob.mk (fun _ => ?_) ?_); rotate_left 1) | (with_reducible first | refine Mg.mk (Exists.intro ?_ (And.intro ?_ ?_)) | rfl | refine Fin.mk ?_ | exact True.intro | refine And.intro ?_ ?_)))
  all_goals ((try dsimp only [Shp.D, Shp.Ds, Shp.dflt] at *); simp only [vem, veq, ne_eq, cmpI, arI, dvI, shI, SV.den, obLt, elemAt, obApp, partL, obPart, lowD, highD, mxOk, convL_self, zerosB, List.length_replicate, vln] at *; (try dsimp only [Shp.D, Shp.Ds, Shp.dflt, Shp.dflts] at *); simp [alls, toSel, *])
theorem mx_max (a b : Int) : (if b > a then b else a) = max a b := by omega
theorem mn_min (a b : Int) : (if b < a then b else a) = min a b := by omega
abbrev opqSp : Spec := fnSpec [selE] [.bool] [] (fun _ => True) fun x y => y.1 = opq (toSel x.1)
abbrev lessFn : Spec := fnFn [adrE, adrE] [.bool] (fun _ => True) fun x => (less (toAdr x.1) (toAdr x.2.1), ())
abbrev opqFn : Spec := fnFn [selE] [.bool] (fun _ => True) fun x => (opq (toSel x.1), ())
abbrev allFn : Spec := fnFn [selE] [.bool] (fun _ => True) fun x => (alls (toSel x.1), ())
theorem sless_fs {E : Env} (hE : E.ok) : SpecOk Try.prog E 37 lessFn := fnFn_of (sless_sp hE) fun x y h => by rw [← h]
theorem sopq_fs {E : Env} (hE : E.ok) : SpecOk Try.prog E 56 opqFn := fnFn_of (sopq_sp hE) fun x y h => by rw [← h]
theorem sall_fs {E : Env} (hE : E.ok) : SpecOk Try.prog E 57 allFn := fnFn_of (sall_sp hE) fun x y h => by rw [← h]
def mtC_t : SpecT := nd0 56 (lf0 37 (lessFn)) (nd0 57 (lf0 56 (opqFn)) (lf0 57 (allFn)))
def mtC : Cx := ⟨tt, qt, bt, st, mtC_t, 0, 1000000000000000, fun _ => none, false, CxE.no⟩
theorem mtC_si {E : Env} (h : E.ok) : SpecsOk Try.prog E (CxE.no) mtC_t (fun _ => none) := ⟨(nd0_ok (lf0_ok (sless_fs h)) (nd0_ok (lf0_ok (sopq_fs h)) (lf0_ok (sall_fs h)))), noI_ok _ _ _⟩
theorem mtC_x {E : Env} (h : E.ok) : CxEOk Try.prog E (CxE.no) := CxE.no_ok _ _
theorem mtC_cx (E : Env) (h : E.ok) (h1 : E.lo = 0) (h2 : E.hi = 1000000000000000) : Cx.ok mtC Try.prog E := ⟨tt_ok, qt_ok, bt_ok, mtC_si h, h, h1, h2, mixed_ok, mtC_x h⟩
theorem mtC_from (lo hi : Nat) (E : Env) (h : E.ok) (h1 : E.lo = lo) (h2 : E.hi = hi) : Cx.ok (Cx.from mtC lo hi) Try.prog E := ⟨tt_ok, qt_ok, bt_ok, mtC_si h, h, h1, h2, mixed_ok, mtC_x h⟩
abbrev meetSp : Spec := fnSpec [selE, selE] [selE, .bool] [] (fun _ => True) fun x y => meet (toSel x.1) (toSel x.2.1) = (toSel y.1, y.2.1)
theorem smeet_fn : hasFn Try.prog 17 := ⟨_, Try.func17, by rfl, by rfl⟩
theorem smeet_sp {E : Env} (hE : E.ok) : SpecOk Try.prog E 17 meetSp := by
  refine spec_of_vc (C := mtC) smeet_fn Try.func17 (by kernel_rfl) mtC_cx (fun x hl hx => ?_) hE
  obtain ⟨⟨p, a, c, ⟨f, h, l, u⟩, ⟨f', h', l', u'⟩, u1⟩, ⟨p2, a2, c2, ⟨g, k, m, v⟩, ⟨g', k', m', v'⟩, v1⟩, u''⟩ := x
  cbv
  (repeat' (first | ((with_reducible refine And.intro (fun h => ?_) (fun h => ?_)) <;> (first | with_reducible exact (tf h (by assumption)).elim | with_reducible exact (tf (by assumption) h).elim | cbv)) | ((with_reducible first | refine Cb.mk ?_ | refine Lz.mk ?_ | refine AllT.mk (fun x hx => ?_)); cbv) | ((with_reducible refine Ob.mk (fun _ => ?_) ?_); rotate_left 1) | (with_reducible first | refine Mg.mk (Exists.intro ?_ (And.intro ?_ ?_)) | rfl | refine Fin.mk ?_ | exact True.intro | refine And.intro ?_ ?_)))
  with_reducible refine join_hv (rangeN 7 38) [] [] [] (fun z b t y => f = g ∧ less ⟨f', h', l'⟩ ⟨g, k, m⟩ = false ∧ less ⟨g', k', m'⟩ ⟨f, h, l⟩ = false ∧ ¬(p ≠ p2 ∧ p ≠ 0 ∧ p2 ≠ 0)) (by cbv) ?_ ?_
  · intro R1 hR1
    cbv
    (repeat' (first | ((with_reducible refine And.intro (fun h => ?_) (fun h => ?_)) <;> (first | with_reducible exact (tf h (by assumption)).elim | with_reducible exact (tf (by assumption) h).elim | cbv)) | ((with_reducible first | refine Cb.mk ?_ | refine Lz.mk ?_ | refine JoinT.left ?_ | refine AllT.mk (fun x hx => ?_)); cbv) | ((with_reducible refine Ob.mk (fun _ => ?_) ?_); rotate_left 1) | (with_reducible first | refine Mg.mk (Exists.intro ?_ (And.intro ?_ ?_)) | rfl | refine Fin.mk ?_ | exact True.intro | refine And.intro ?_ ?_)))
    all_goals first | (with_reducible show (∃ _, unr _ _ _ _ _ _); skip) | (with_reducible show Goes _ _ _ _; skip) | (with_reducible show JoinT _ _ _ _ _ _; skip) | ((try dsimp only [Shp.D, Shp.Ds, Shp.dflt] at *); simp only [vem, veq, ne_eq, cmpI, arI, dvI, shI, SV.den, obLt, elemAt, obApp, partL, obPart, lowD, highD, mxOk, convL_self, zerosB, List.length_replicate, vln] at *; (try dsimp only [Shp.D, Shp.Ds, Shp.dflt, Shp.dflts] at *); simp only [toSel, toAdr] at *; subst_vars; simp [meet, Sel.zero, Adr.zero, *])
    all_goals ((with_reducible refine hR1 _ ?_ (fun zq bq tq yq hUq => ?_)); (focus (refine EndOk.mk (by cbv) (by cbv) (by cbv; repeat' (first | exact True.intro | exact rfl | with_reducible refine And.intro ?_ ?_)) (by cbv; repeat' (first | exact True.intro | exact rfl | with_reducible refine And.intro ?_ ?_)) (by cbv; repeat' (first | exact True.intro | exact rfl | with_reducible refine And.intro ?_ ?_)))); (clear hUq hR1); (try dsimp only [Shp.D, Shp.Ds, Shp.dflt] at *); (try simp only [vem, veq, ne_eq, cmpI, arI, dvI, shI, SV.den, elemAt, convL_self] at *); (try dsimp only [Shp.D, Shp.Ds, Shp.dflt, Shp.dflts] at *))
    all_goals (simp only [toAdr] at *; exact ⟨by assumption, by assumption, by assumption, by omega⟩)
  intro z1 b1 t1 u1 y1 hP1
  cbv
  (repeat' (first | ((with_reducible refine And.intro (fun h => ?_) (fun h => ?_)) <;> (first | with_reducible exact (tf h (by assumption)).elim | with_reducible exact (tf (by assumption) h).elim | cbv)) | ((with_reducible first | refine Cb.mk ?_ | refine Lz.mk ?_ | refine AllT.mk (fun x hx => ?_)); cbv) | ((with_reducible refine Ob.mk (fun _ => ?_) ?_); rotate_left 1) | (with_reducible first | refine Mg.mk (Exists.intro ?_ (And.intro ?_ ?_)) | rfl | refine Fin.mk ?_ | exact True.intro | refine And.intro ?_ ?_)))
  with_reducible refine join_hv (rangeN 56 8) [] [1896] [] (fun z b t y => z 125440 = max p p2 ∧ z 125441 = 0 ∧ z 125442 = 0 ∧ (⟨z 125443, z 125444, z 125445⟩ : Adr) = amax ⟨f, h, l⟩ ⟨g, k, m⟩ ∧ z 125446 = f' ∧ z 125447 = h' ∧ z 125448 = l') (by cbv) ?_ ?_
  · intro R2 hR2
    cbv
    (repeat' (first | ((with_reducible refine And.intro (fun h => ?_) (fun h => ?_)) <;> (first | with_reducible exact (tf h (by assumption)).elim | with_reducible exact (tf (by assumption) h).elim | cbv)) | ((with_reducible first | refine Cb.mk ?_ | refine Lz.mk ?_ | refine JoinT.left ?_ | refine AllT.mk (fun x hx => ?_)); cbv) | ((with_reducible refine Ob.mk (fun _ => ?_) ?_); rotate_left 1) | (with_reducible first | refine Mg.mk (Exists.intro ?_ (And.intro ?_ ?_)) | rfl | refine Fin.mk ?_ | exact True.intro | refine And.intro ?_ ?_)))
    all_goals ((with_reducible refine hR2 _ ?_ (fun zq bq tq yq hUq => ?_)); (focus (refine EndOk.mk (by cbv) (by cbv) (by cbv; repeat' (first | exact True.intro | exact rfl | with_reducible refine And.intro ?_ ?_)) (by cbv; repeat' (first | exact True.intro | exact rfl | with_reducible refine And.intro ?_ ?_)) (by cbv; repeat' (first | exact True.intro | exact rfl | with_reducible refine And.intro ?_ ?_)))); (have q125440 := hUq.z 125440); (cbv at q125440); (replace q125440 := q125440.eq); (simp only [atI, vem, veq, ne_eq, cmpI, arI, dvI, shI, SV.den] at q125440); (have q125441 := hUq.z 125441); (cbv at q125441); (replace q125441 := q125441.eq); (simp only [atI, vem, veq, ne_eq, cmpI, arI, dvI, shI, SV.den] at q125441); (have q125442 := hUq.z 125442); (cbv at q125442); (replace q125442 := q125442.eq); (simp only [atI, vem, veq, ne_eq, cmpI, arI, dvI, shI, SV.den] at q125442); (have q125443 := hUq.z 125443); (cbv at q125443); (replace q125443 := q125443.eq); (simp only [atI, vem, veq, ne_eq, cmpI, arI, dvI, shI, SV.den] at q125443); (have q125444 := hUq.z 125444); (cbv at q125444); (replace q125444 := q125444.eq); (simp only [atI, vem, veq, ne_eq, cmpI, arI, dvI, shI, SV.den] at q125444); (have q125445 := hUq.z 125445); (cbv at q125445); (replace q125445 := q125445.eq); (simp only [atI, vem, veq, ne_eq, cmpI, arI, dvI, shI, SV.den] at q125445); (have q125446 := hUq.z 125446); (cbv at q125446); (replace q125446 := q125446.eq); (simp only [atI, vem, veq, ne_eq, cmpI, arI, dvI, shI, SV.den] at q125446); (have q125447 := hUq.z 125447); (cbv at q125447); (replace q125447 := q125447.eq); (simp only [atI, vem, veq, ne_eq, cmpI, arI, dvI, shI, SV.den] at q125447); (have q125448 := hUq.z 125448); (cbv at q125448); (replace q125448 := q125448.eq); (simp only [atI, vem, veq, ne_eq, cmpI, arI, dvI, shI, SV.den] at q125448); (clear hUq hR2); (try dsimp only [Shp.D, Shp.Ds, Shp.dflt] at *); (try simp only [vem, veq, ne_eq, cmpI, arI, dvI, shI, SV.den, elemAt, convL_self] at *); (try dsimp only [Shp.D, Shp.Ds, Shp.dflt, Shp.dflts] at *))
    all_goals
      refine ⟨by omega, by omega, by omega, ?_, by omega, by omega, by omega⟩
      have h0 := ‹less (toAdr _) (toAdr _) = _›
      simp only [toAdr] at h0
      rw [amax, h0, ← q125443, ← q125444, ← q125445]
      rfl
  intro z2 b2 t2 u2 y2 hP2
  cbv
  (repeat' (first | ((with_reducible refine And.intro (fun h => ?_) (fun h => ?_)) <;> (first | with_reducible exact (tf h (by assumption)).elim | with_reducible exact (tf (by assumption) h).elim | cbv)) | ((with_reducible first | refine Cb.mk ?_ | refine Lz.mk ?_ | refine AllT.mk (fun x hx => ?_)); cbv) | ((with_reducible refine Ob.mk (fun _ => ?_) ?_); rotate_left 1) | (with_reducible first | refine Mg.mk (Exists.intro ?_ (And.intro ?_ ?_)) | rfl | refine Fin.mk ?_ | exact True.intro | refine And.intro ?_ ?_)))
  with_reducible refine join_hv (rangeN 64 8) [] [1896] [] (fun z b t y => z 125440 = max p p2 ∧ z 125441 = 0 ∧ z 125442 = 0 ∧ (⟨z 125443, z 125444, z 125445⟩ : Adr) = amax ⟨f, h, l⟩ ⟨g, k, m⟩ ∧ (⟨z 125446, z 125447, z 125448⟩ : Adr) = amin ⟨f', h', l'⟩ ⟨g', k', m'⟩) (by cbv) ?_ ?_
  · intro R3 hR3
    cbv
    (repeat' (first | ((with_reducible refine And.intro (fun h => ?_) (fun h => ?_)) <;> (first | with_reducible exact (tf h (by assumption)).elim | with_reducible exact (tf (by assumption) h).elim | cbv)) | ((with_reducible first | refine Cb.mk ?_ | refine Lz.mk ?_ | refine JoinT.left ?_ | refine AllT.mk (fun x hx => ?_)); cbv) | ((with_reducible refine Ob.mk (fun _ => ?_) ?_); rotate_left 1) | (with_reducible first | refine Mg.mk (Exists.intro ?_ (And.intro ?_ ?_)) | rfl | refine Fin.mk ?_ | exact True.intro | refine And.intro ?_ ?_)))
    all_goals ((with_reducible refine hR3 _ ?_ (fun zq bq tq yq hUq => ?_)); (focus (refine EndOk.mk (by cbv) (by cbv) (by cbv; repeat' (first | exact True.intro | exact rfl | with_reducible refine And.intro ?_ ?_)) (by cbv; repeat' (first | exact True.intro | exact rfl | with_reducible refine And.intro ?_ ?_)) (by cbv; repeat' (first | exact True.intro | exact rfl | with_reducible refine And.intro ?_ ?_)))); (have q125440 := hUq.z 125440); (cbv at q125440); (replace q125440 := q125440.eq); (simp only [atI, vem, veq, ne_eq, cmpI, arI, dvI, shI, SV.den] at q125440); (have q125441 := hUq.z 125441); (cbv at q125441); (replace q125441 := q125441.eq); (simp only [atI, vem, veq, ne_eq, cmpI, arI, dvI, shI, SV.den] at q125441); (have q125442 := hUq.z 125442); (cbv at q125442); (replace q125442 := q125442.eq); (simp only [atI, vem, veq, ne_eq, cmpI, arI, dvI, shI, SV.den] at q125442); (have q125443 := hUq.z 125443); (cbv at q125443); (replace q125443 := q125443.eq); (simp only [atI, vem, veq, ne_eq, cmpI, arI, dvI, shI, SV.den] at q125443); (have q125444 := hUq.z 125444); (cbv at q125444); (replace q125444 := q125444.eq); (simp only [atI, vem, veq, ne_eq, cmpI, arI, dvI, shI, SV.den] at q125444); (have q125445 := hUq.z 125445); (cbv at q125445); (replace q125445 := q125445.eq); (simp only [atI, vem, veq, ne_eq, cmpI, arI, dvI, shI, SV.den] at q125445); (have q125446 := hUq.z 125446); (cbv at q125446); (replace q125446 := q125446.eq); (simp only [atI, vem, veq, ne_eq, cmpI, arI, dvI, shI, SV.den] at q125446); (have q125447 := hUq.z 125447); (cbv at q125447); (replace q125447 := q125447.eq); (simp only [atI, vem, veq, ne_eq, cmpI, arI, dvI, shI, SV.den] at q125447); (have q125448 := hUq.z 125448); (cbv at q125448); (replace q125448 := q125448.eq); (simp only [atI, vem, veq, ne_eq, cmpI, arI, dvI, shI, SV.den] at q125448); (clear hUq hR3); (try dsimp only [Shp.D, Shp.Ds, Shp.dflt] at *); (try simp only [vem, veq, ne_eq, cmpI, arI, dvI, shI, SV.den, elemAt, convL_self] at *); (try dsimp only [Shp.D, Shp.Ds, Shp.dflt, Shp.dflts] at *))
    all_goals
      obtain ⟨e1, e2, e3, e4, e5, e6, e7⟩ := hP2
      refine ⟨by omega, by omega, by omega, ?_, ?_⟩
      · rw [← q125443, ← q125444, ← q125445]; exact e4
      have h0 := ‹less (toAdr _) (toAdr _) = _›
      simp only [toAdr, e5, e6, e7] at h0
      rw [amin, h0, ← q125446, ← q125447, ← q125448]
      first | rfl | (rw [e5, e6, e7]; rfl)
  intro z3 b3 t3 u3 y3 hP3
  cbv
  (repeat' (first | ((with_reducible refine And.intro (fun h => ?_) (fun h => ?_)) <;> (first | with_reducible exact (tf h (by assumption)).elim | with_reducible exact (tf (by assumption) h).elim | cbv)) | ((with_reducible first | refine Cb.mk ?_ | refine Lz.mk ?_ | refine JoinT.left ?_ | refine AllT.mk (fun x hx => ?_)); cbv) | ((with_reducible refine Ob.mk (fun _ => ?_) ?_); rotate_left 1) | (with_reducible first | refine Mg.mk (Exists.intro ?_ (And.intro ?_ ?_)) | rfl | refine Fin.mk ?_ | exact True.intro | refine And.intro ?_ ?_)))
  all_goals
    (try dsimp only [Shp.D, Shp.Ds, Shp.dflt] at *); simp only [vem, veq, ne_eq, cmpI, arI, dvI, shI, SV.den, obLt, elemAt, obApp, partL, obPart, lowD, highD, mxOk, convL_self, zerosB, List.length_replicate, vln] at *; (try dsimp only [Shp.D, Shp.Ds, Shp.dflt, Shp.dflts] at *)
    obtain ⟨g1, g2, g3, g4⟩ := hP1
    obtain ⟨e1, e2, e3, e4, e5⟩ := hP3
    clear hP2
    simp only [toSel, toAdr, mx_max, mn_min] at *
    subst g1
    rw [meet, if_neg (by simp), g2, g3, if_neg (by simp), if_neg (by simp), if_neg g4]
    simp [e1, e4, e5, Sel.zero, Adr.zero, *]
end Go.Proofs.Ytiinlanpinanhaa.V
