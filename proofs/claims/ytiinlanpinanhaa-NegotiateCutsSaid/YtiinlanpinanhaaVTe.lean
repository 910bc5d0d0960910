/- Contracts: the choice between two lists of proposals (negotiate). -/
import Derived.Test.YtiinlanpinanhaaVTc
set_option linter.unusedVariables false
set_option linter.unusedSimpArgs false
namespace Go.Proofs.Ytiinlanpinanhaa.V
open Go.RowKit
set_option maxHeartbeats 8000000
set_option maxRecDepth 100000
structure okP (l : List PrT) : Prop where
  ok : ∀ p ∈ l, okT p.2.2.2.1
theorem okP.at {l : List PrT} (h : okP l) (k : Nat) : okT (l.getD k (0, 0, [], [], ())).2.2.2.1 := by
  rw [List.getD_eq_getElem?_getD]
  by_cases hk : k < l.length
  · rw [List.getElem?_eq_getElem hk]
    exact h.ok _ (List.getElem_mem hk)
  · rw [List.getElem?_eq_none (by omega)]
    exact ⟨fun t ht => (by cases ht)⟩
def fit (o w : PrT) : Option PrT := match choiceF o w with
  | (p, true) => some p
  | (_, false) => none
def chooseF (off own : List PrT) : Option PrT := own.findSome? fun w => off.findSome? fun o => fit o w
def chooseR (off own : List PrT) : PrT × Int := match chooseF off own with
  | some p => (p, 0)
  | none => (prD0, 16)
theorem some_yes {α β : Type} {l : List α} {f : α → Option β} (d : α) {k : Nat} (hk : k < l.length) {b : β} (hr : (l.drop k).findSome? f = l.findSome? f) (h : f (l.getD k d) = some b) : l.findSome? f = some b := by
  rw [← hr, List.drop_eq_getElem_cons hk, List.findSome?_cons]
  rw [List.getD_eq_getElem?_getD, List.getElem?_eq_getElem hk] at h
  simp only [Option.getD_some] at h
  rw [h]
theorem some_next {α β : Type} {l : List α} {f : α → Option β} (d : α) {k : Nat} (hk : k < l.length) (hr : (l.drop k).findSome? f = l.findSome? f) (h : f (l.getD k d) = none) : (l.drop (k + 1)).findSome? f = l.findSome? f := by
  rw [← hr, List.drop_eq_getElem_cons hk, List.findSome?_cons]
  rw [List.getD_eq_getElem?_getD, List.getElem?_eq_getElem hk] at h
  simp only [Option.getD_some] at h
  rw [h]
theorem fit_yes {o w : PrT} {x : PrT} {b : Bool} (hx : (x, b) = choiceF o w) (h : b = true) : fit o w = some x := by
  unfold fit; rw [← hx, h]
theorem fit_no {o w : PrT} {x : PrT} {b : Bool} (hx : (x, b) = choiceF o w) (h : b = false) : fit o w = none := by
  unfold fit; rw [← hx, h]
theorem choose_hit {ol wl : List PrT} {i j : Nat} {x : PrT} {b : Bool} (hi : i < wl.length) (hj : j < ol.length)
    (p3 : (wl.drop i).findSome? (fun w => ol.findSome? fun o => fit o w) = chooseF ol wl)
    (r3 : (ol.drop j).findSome? (fun o => fit o (wl.getD i (0, 0, [], [], ()))) = ol.findSome? (fun o => fit o (wl.getD i (0, 0, [], [], ()))))
    (hx : (x, b) = choiceF (ol.getD j (0, 0, [], [], ())) (wl.getD i (0, 0, [], [], ()))) (h : b = true) : (x, 0) = chooseR ol wl := by
  unfold chooseR
  have h1 := some_yes (0, 0, [], [], ()) hj r3 (fit_yes hx h)
  have h2 : chooseF ol wl = some x := some_yes (0, 0, [], [], ()) hi p3 h1
  rw [h2]
def cseC_t : SpecT := lf0 60 (choSp)
def cseC : Cx := ⟨tt, qt, bt, st, cseC_t, 0, 1000000000000000, fun _ => none, false, CxE.no⟩
theorem cseC_si {E : Env} (h : E.ok) : SpecsOk Try.prog E (CxE.no) cseC_t (fun _ => none) := ⟨(lf0_ok (cho_sp h)), noI_ok _ _ _⟩
theorem cseC_x {E : Env} (h : E.ok) : CxEOk Try.prog E (CxE.no) := CxE.no_ok _ _
theorem cseC_cx (E : Env) (h : E.ok) (h1 : E.lo = 0) (h2 : E.hi = 1000000000000000) : Cx.ok cseC Try.prog E := ⟨tt_ok, qt_ok, bt_ok, cseC_si h, h, h1, h2, mixed_ok, cseC_x h⟩
theorem cseC_from (lo hi : Nat) (E : Env) (h : E.ok) (h1 : E.lo = lo) (h2 : E.hi = hi) : Cx.ok (Cx.from cseC lo hi) Try.prog E := ⟨tt_ok, qt_ok, bt_ok, cseC_si h, h, h1, h2, mixed_ok, cseC_x h⟩
theorem cse_fn : hasFn Try.prog 25 := ⟨_, Try.func25, by rfl, by rfl⟩
abbrev cseSp : Spec := fnSpec [.sl prE, .sl prE] [prE, .int .i64] [5, 48] (fun x => okP x.1 ∧ okP x.2.1) fun x y => (y.1, y.2.1) = chooseR x.1 x.2.1
theorem cse_sp {E : Env} (hE : E.ok) : SpecOk Try.prog E 25 cseSp := by
  refine spec_of_vc (C := cseC) cse_fn Try.func25 (by kernel_rfl) cseC_cx (fun x hl hx => ?_) hE
  obtain ⟨ol, wl, u2⟩ := x
  obtain ⟨hx1, hx2⟩ := hx
  have hlen : wl.length ≤ 140737488355328 := by simp only [Shp.lims, Shp.lim] at hl; exact hl.2.1.1
  have hlen' : ol.length ≤ 140737488355328 := by simp only [Shp.lims, Shp.lim] at hl; exact hl.1.1
  cbv
  (repeat' (first | ((with_reducible refine And.intro (fun h => ?_) (fun h => ?_)) <;> (first | with_reducible exact (tf h (by assumption)).elim | with_reducible exact (tf (by assumption) h).elim | cbv)) | ((with_reducible show JoinT (fun s K => vc _ (Code.region _ _ true) s K) _ _ _ _ _); (with_reducible apply JoinT.mg2); (focus (cbv; (repeat' (first | ((with_reducible refine And.intro (fun h => ?_) (fun h => ?_)) <;> (first | with_reducible exact (tf h (by assumption)).elim | with_reducible exact (tf (by assumption) h).elim | cbv)) | ((with_reducible first | refine Cb.mk ?_ | refine Lz.mk ?_ | refine JoinT.left ?_ | refine AllT.mk (fun x hx => ?_)); cbv) | ((with_reducible refine Ob.mk (fun _ => ?_) ?_); rotate_left 1) | (with_reducible first | refine Mg.mk (Exists.intro ?_ (And.intro ?_ ?_)) | rfl | refine Fin.mk ?_ | exact True.intro | refine And.intro ?_ ?_))); (all_goals (try (have du : Unit := (); have dv : Unit := (); first | exact Goes.self (Ex2.mk ⟨dv, du, trivial, trivial, rfl⟩) | exact Goes.self (Ex2.mk ⟨x, du, hx, trivial, rfl⟩) | (rename_i xa hxa; exact Goes.self (Ex2.mk ⟨xa, x, hxa, hx, rfl⟩))))); (all_goals (fail_if_success (with_reducible first | show Goes _ _ _ _ | show (∃ _, unr _ _ _ _ _ _))))))) | ((with_reducible first | refine Cb.mk ?_ | refine Lz.mk ?_ | refine JoinT.left ?_ | refine AllT.mk (fun x hx => ?_)); cbv) | ((with_reducible refine Ob.mk (fun _ => ?_) ?_); rotate_left 1) | (with_reducible first | refine Mg.mk (Exists.intro ?_ (And.intro ?_ ?_)) | rfl | refine Fin.mk ?_ | exact True.intro | refine And.intro ?_ ?_)))
  with_reducible refine loop_hv [] (rangeN 6 6 ++ rangeN 15 18) [] [] (fun z b t y => 0 ≤ z 14 ∧ z 14 ≤ (wl.length : Int) ∧ (wl.drop (z 14).toNat).findSome? (fun w => ol.findSome? fun o => fit o w) = chooseF ol wl) (fun z b t y => ((wl.length : Int) - z 14).toNat) (by cbv) (by cbv) ?_ ?_ (fun z1 b1 t1 u1 y1 R1 hP1 hR1 => ?_)
  · refine EndOk.mk (by cbv) (by cbv) (by cbv; repeat' (first | exact True.intro | exact rfl | with_reducible refine And.intro ?_ ?_)) (by cbv; repeat' (first | exact True.intro | exact rfl | with_reducible refine And.intro ?_ ?_)) (by cbv; repeat' (first | exact True.intro | exact rfl | with_reducible refine And.intro ?_ ?_))
  · intro zq bq tq yq hUq
    have q14 := hUq.z 14
    cbv at q14
    replace q14 := q14.eq
    simp only [atI, vem, veq, ne_eq, cmpI, arI, dvI, shI, SV.den] at q14
    clear hUq
    try dsimp only [Shp.D, Shp.Ds, Shp.dflt] at *
    try simp only [vem, veq, ne_eq, cmpI, arI, dvI, shI, SV.den, convL_self] at *
    rw [← q14]
    exact ⟨by omega, by omega, rfl⟩
  obtain ⟨p1, p2, p3⟩ := hP1
  cbv
  (repeat' (first | ((with_reducible refine And.intro (fun h => ?_) (fun h => ?_)) <;> (first | with_reducible exact (tf h (by assumption)).elim | with_reducible exact (tf (by assumption) h).elim | cbv)) | ((with_reducible show JoinT (fun s K => vc _ (Code.region _ _ true) s K) _ _ _ _ _); (with_reducible apply JoinT.mg2); (focus (cbv; (repeat' (first | ((with_reducible refine And.intro (fun h => ?_) (fun h => ?_)) <;> (first | with_reducible exact (tf h (by assumption)).elim | with_reducible exact (tf (by assumption) h).elim | cbv)) | ((with_reducible first | refine Cb.mk ?_ | refine Lz.mk ?_ | refine JoinT.left ?_ | refine AllT.mk (fun x hx => ?_)); cbv) | ((with_reducible refine Ob.mk (fun _ => ?_) ?_); rotate_left 1) | (with_reducible first | refine Mg.mk (Exists.intro ?_ (And.intro ?_ ?_)) | rfl | refine Fin.mk ?_ | exact True.intro | refine And.intro ?_ ?_))); (all_goals (try (have du : Unit := (); have dv : Unit := (); first | exact Goes.self (Ex2.mk ⟨dv, du, trivial, trivial, rfl⟩) | exact Goes.self (Ex2.mk ⟨x, du, hx, trivial, rfl⟩) | (rename_i xa hxa; exact Goes.self (Ex2.mk ⟨xa, x, hxa, hx, rfl⟩))))); (all_goals (fail_if_success (with_reducible first | show Goes _ _ _ _ | show (∃ _, unr _ _ _ _ _ _))))))) | ((with_reducible first | refine Cb.mk ?_ | refine Lz.mk ?_ | refine JoinT.left ?_ | refine AllT.mk (fun x hx => ?_)); cbv) | ((with_reducible refine Ob.mk (fun _ => ?_) ?_); rotate_left 1) | (with_reducible first | refine Mg.mk (Exists.intro ?_ (And.intro ?_ ?_)) | rfl | refine Fin.mk ?_ | exact True.intro | refine And.intro ?_ ?_)))
  all_goals first | (with_reducible show (∃ _, unr _ _ _ _ _ _); skip) | (with_reducible show Goes _ _ _ _; skip) | (with_reducible show JoinT _ _ _ _ _ _; skip) | (first | ((try dsimp only [Shp.D, Shp.Ds, Shp.dflt] at *); simp only [vem, veq, ne_eq, cmpI, arI, dvI, shI, SV.den, obLt, elemAt, obApp, partL, obPart, lowD, highD, mxOk, convL_self, zerosB, List.length_replicate, vln] at *; (try dsimp only [Shp.D, Shp.Ds, Shp.dflt, Shp.dflts] at *); done) | ((try dsimp only [Shp.D, Shp.Ds, Shp.dflt] at *); simp only [vem, veq, ne_eq, cmpI, arI, dvI, shI, SV.den, obLt, elemAt, obApp, partL, obPart, lowD, highD, mxOk, convL_self, zerosB, List.length_replicate, vln] at *; (try dsimp only [Shp.D, Shp.Ds, Shp.dflt, Shp.dflts] at *); omega) | ((try dsimp only [Shp.D, Shp.Ds, Shp.dflt] at *); simp only [vem, veq, ne_eq, cmpI, arI, dvI, shI, SV.den, obLt, elemAt, obApp, partL, obPart, lowD, highD, mxOk, convL_self, zerosB, List.length_replicate, vln] at *; (try dsimp only [Shp.D, Shp.Ds, Shp.dflt, Shp.dflts] at *); rw [List.drop_eq_nil_of_le (by omega)] at p3; unfold chooseR; rw [← p3]; rfl))
  with_reducible refine loop_hv [] (rangeN 9 3 ++ rangeN 21 11) [] [] (fun z b t y => 0 ≤ z 20 ∧ z 20 ≤ (ol.length : Int) ∧ (ol.drop (z 20).toNat).findSome? (fun o => fit o (wl.getD (z1 14).toNat (0, 0, [], [], ()))) = ol.findSome? (fun o => fit o (wl.getD (z1 14).toNat (0, 0, [], [], ())))) (fun z b t y => ((ol.length : Int) - z 20).toNat) (by cbv) (by cbv) ?_ ?_ (fun z2 b2 t2 u2 y2 R2 hP2 hR2 => ?_)
  · refine EndOk.mk (by cbv) (by cbv) (by cbv; repeat' (first | exact True.intro | exact rfl | with_reducible refine And.intro ?_ ?_)) (by cbv; repeat' (first | exact True.intro | exact rfl | with_reducible refine And.intro ?_ ?_)) (by cbv; repeat' (first | exact True.intro | exact rfl | with_reducible refine And.intro ?_ ?_))
  · intro zq bq tq yq hUq
    have q20 := hUq.z 20
    cbv at q20
    replace q20 := q20.eq
    simp only [atI, vem, veq, ne_eq, cmpI, arI, dvI, shI, SV.den] at q20
    clear hUq
    try dsimp only [Shp.D, Shp.Ds, Shp.dflt] at *
    try simp only [vem, veq, ne_eq, cmpI, arI, dvI, shI, SV.den, convL_self] at *
    rw [← q20]
    exact ⟨by omega, by omega, rfl⟩
  obtain ⟨r1, r2, r3⟩ := hP2
  cbv
  (repeat' (first | ((with_reducible refine And.intro (fun h => ?_) (fun h => ?_)) <;> (first | with_reducible exact (tf h (by assumption)).elim | with_reducible exact (tf (by assumption) h).elim | cbv)) | ((with_reducible show JoinT (fun s K => vc _ (Code.region _ _ true) s K) _ _ _ _ _); (with_reducible apply JoinT.mg2); (focus (cbv; (repeat' (first | ((with_reducible refine And.intro (fun h => ?_) (fun h => ?_)) <;> (first | with_reducible exact (tf h (by assumption)).elim | with_reducible exact (tf (by assumption) h).elim | cbv)) | ((with_reducible first | refine Cb.mk ?_ | refine Lz.mk ?_ | refine JoinT.left ?_ | refine AllT.mk (fun x hx => ?_)); cbv) | ((with_reducible refine Ob.mk (fun _ => ?_) ?_); rotate_left 1) | (with_reducible first | refine Mg.mk (Exists.intro ?_ (And.intro ?_ ?_)) | rfl | refine Fin.mk ?_ | exact True.intro | refine And.intro ?_ ?_))); (all_goals (try (have du : Unit := (); have dv : Unit := (); first | exact Goes.self (Ex2.mk ⟨dv, du, trivial, trivial, rfl⟩) | exact Goes.self (Ex2.mk ⟨x, du, hx, trivial, rfl⟩) | (rename_i xa hxa; exact Goes.self (Ex2.mk ⟨xa, x, hxa, hx, rfl⟩))))); (all_goals (fail_if_success (with_reducible first | show Goes _ _ _ _ | show (∃ _, unr _ _ _ _ _ _))))))) | ((with_reducible first | refine Cb.mk ?_ | refine Lz.mk ?_ | refine JoinT.left ?_ | refine AllT.mk (fun x hx => ?_)); cbv) | ((with_reducible refine Ob.mk (fun _ => ?_) ?_); rotate_left 1) | (with_reducible first | refine Mg.mk (Exists.intro ?_ (And.intro ?_ ?_)) | rfl | refine Fin.mk ?_ | exact True.intro | refine And.intro ?_ ?_)))
  all_goals first | (with_reducible show (∃ _, unr _ _ _ _ _ _); skip) | (with_reducible show Goes _ _ _ _; skip) | (with_reducible show JoinT _ _ _ _ _ _; skip) | (first | ((try dsimp only [Shp.D, Shp.Ds, Shp.dflt] at *); simp only [vem, veq, ne_eq, cmpI, arI, dvI, shI, SV.den, obLt, elemAt, obApp, partL, obPart, lowD, highD, mxOk, convL_self, zerosB, List.length_replicate, vln] at *; (try dsimp only [Shp.D, Shp.Ds, Shp.dflt, Shp.dflts] at *); done) | ((try dsimp only [Shp.D, Shp.Ds, Shp.dflt] at *); simp only [vem, veq, ne_eq, cmpI, arI, dvI, shI, SV.den, obLt, elemAt, obApp, partL, obPart, lowD, highD, mxOk, convL_self, zerosB, List.length_replicate, vln] at *; (try dsimp only [Shp.D, Shp.Ds, Shp.dflt, Shp.dflts] at *); omega) | ((try dsimp only [Shp.D, Shp.Ds, Shp.dflt] at *); simp only [vem, veq, ne_eq, cmpI, arI, dvI, shI, SV.den, obLt, elemAt, obApp, partL, obPart, lowD, highD, mxOk, convL_self, zerosB, List.length_replicate, vln] at *; (try dsimp only [Shp.D, Shp.Ds, Shp.dflt, Shp.dflts] at *); exact okP.at hx1 _) | ((try dsimp only [Shp.D, Shp.Ds, Shp.dflt] at *); simp only [vem, veq, ne_eq, cmpI, arI, dvI, shI, SV.den, obLt, elemAt, obApp, partL, obPart, lowD, highD, mxOk, convL_self, zerosB, List.length_replicate, vln] at *; (try dsimp only [Shp.D, Shp.Ds, Shp.dflt, Shp.dflts] at *); exact okP.at hx2 _) | ((try dsimp only [Shp.D, Shp.Ds, Shp.dflt] at *); simp only [vem, veq, ne_eq, cmpI, arI, dvI, shI, SV.den, obLt, elemAt, obApp, partL, obPart, lowD, highD, mxOk, convL_self, zerosB, List.length_replicate, vln] at *; (try dsimp only [Shp.D, Shp.Ds, Shp.dflt, Shp.dflts] at *); exact choose_hit (by omega) (by omega) p3 r3 hx.1 h))
  · with_reducible refine hR2 _ ?_ (fun zq bq tq yq hUq => ?_)
    · refine EndOk.mk (by cbv) (by cbv) (by cbv; repeat' (first | exact True.intro | exact rfl | with_reducible refine And.intro ?_ ?_)) (by cbv; repeat' (first | exact True.intro | exact rfl | with_reducible refine And.intro ?_ ?_)) (by cbv; repeat' (first | exact True.intro | exact rfl | with_reducible refine And.intro ?_ ?_))
    have q20 := hUq.z 20
    cbv at q20
    replace q20 := q20.eq
    simp only [atI, vem, veq, ne_eq, cmpI, arI, dvI, shI, SV.den] at q20
    clear hUq hR2
    try dsimp only [Shp.D, Shp.Ds, Shp.dflt] at *
    try simp only [vem, veq, ne_eq, cmpI, arI, dvI, shI, SV.den, elemAt, convL_self] at *
    try dsimp only [Shp.D, Shp.Ds, Shp.dflt, Shp.dflts] at *
    refine ⟨⟨by omega, by omega, ?_⟩, by omega⟩
    rw [show (zq 20).toNat = (z2 20).toNat + 1 by omega]
    exact some_next (0, 0, [], [], ()) (by omega) r3 (fit_no hx.1 h)
  · with_reducible refine hR1 _ ?_ (fun zq bq tq yq hUq => ?_)
    · refine EndOk.mk (by cbv) (by cbv) (by cbv; repeat' (first | exact True.intro | exact rfl | with_reducible refine And.intro ?_ ?_)) (by cbv; repeat' (first | exact True.intro | exact rfl | with_reducible refine And.intro ?_ ?_)) (by cbv; repeat' (first | exact True.intro | exact rfl | with_reducible refine And.intro ?_ ?_))
    have q14 := hUq.z 14
    cbv at q14
    replace q14 := q14.eq
    simp only [atI, vem, veq, ne_eq, cmpI, arI, dvI, shI, SV.den] at q14
    clear hUq hR1
    try dsimp only [Shp.D, Shp.Ds, Shp.dflt] at *
    try simp only [vem, veq, ne_eq, cmpI, arI, dvI, shI, SV.den, elemAt, convL_self] at *
    try dsimp only [Shp.D, Shp.Ds, Shp.dflt, Shp.dflts] at *
    refine ⟨⟨by omega, by omega, ?_⟩, by omega⟩
    rw [show (zq 14).toNat = (z1 14).toNat + 1 by omega]
    rw [List.drop_eq_nil_of_le (by omega)] at r3
    exact some_next (0, 0, [], [], ()) (by omega) p3 r3.symm
end Go.Proofs.Ytiinlanpinanhaa.V
