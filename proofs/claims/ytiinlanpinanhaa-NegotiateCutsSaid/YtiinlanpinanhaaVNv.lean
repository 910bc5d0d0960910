/- Contracts: narrowed lists (negotiate). -/
import Derived.Test.YtiinlanpinanhaaVSd
set_option linter.unusedVariables false
set_option linter.unusedSimpArgs false
namespace Go.Proofs.Ytiinlanpinanhaa.V
open Go.RowKit
set_option maxHeartbeats 8000000
set_option maxRecDepth 100000
def ofAdr (a : Adr) : AdrT := (a.fam, a.hi, a.lo, ())
def ofSel (s : Sel) : SelT := (s.pr, s.pl, s.ph, ofAdr s.lo, ofAdr s.hi, ())
theorem ofSel_toSel (x : SelT) : ofSel (toSel x) = x := rfl
theorem toSel_ofSel (s : Sel) : toSel (ofSel s) = s := rfl
def meetT (a b : SelT) : Option SelT := match meet (toSel a) (toSel b) with
  | (m, true) => some (ofSel m)
  | (_, false) => none
def meetsF (l side : List SelT) : List SelT := l.flatMap fun s => side.filterMap (meetT s)
theorem filterMap_take1 {α β : Type} (f : α → Option β) (l : List α) (d : α) {k : Nat} (h : k < l.length) : (l.take (k + 1)).filterMap f = (l.take k).filterMap f ++ (f (l.getD k d)).toList := by
  rw [List.take_add_one, List.getElem?_eq_getElem h, List.filterMap_append, List.getD_eq_getElem?_getD, List.getElem?_eq_getElem h]
  simp only [Option.toList_some, Option.getD_some, List.filterMap_cons, List.filterMap_nil]
  cases f l[k] <;> rfl
theorem meetsF_length (l side : List SelT) : (meetsF l side).length ≤ l.length * side.length := by
  unfold meetsF
  induction l with
  | nil => simp
  | cons s l ih =>
    have := List.length_filterMap_le (meetT s) side
    simp only [List.flatMap_cons, List.length_append, List.length_cons, Nat.succ_mul]
    omega
theorem meetT_yes {a b m : SelT} {ok : Bool} (h : meet (toSel a) (toSel b) = (toSel m, ok)) (hok : ok = true) : meetT a b = some m := by
  unfold meetT; rw [h, hok]; rfl
theorem meetT_no {a b m : SelT} {ok : Bool} (h : meet (toSel a) (toSel b) = (toSel m, ok)) (hok : ok = false) : meetT a b = none := by
  unfold meetT; rw [h, hok]
abbrev mtsPre : Shp.Ds [.sl selE, .sl selE] → Prop := fun x => x.1.length ≤ 1000 ∧ x.2.1.length ≤ 1000
abbrev mtsSp : Spec := fnSpec [.sl selE, .sl selE] [.sl selE] [30] mtsPre fun x y => y.1 = meetsF x.1 x.2.1
def mtsC_t : SpecT := lf0 17 (meetSp)
def mtsC : Cx := ⟨tt, qt, bt, st, mtsC_t, 0, 1000000000000000, fun _ => none, false, CxE.no⟩
theorem mtsC_si {E : Env} (h : E.ok) : SpecsOk Try.prog E (CxE.no) mtsC_t (fun _ => none) := ⟨(lf0_ok (smeet_sp h)), noI_ok _ _ _⟩
theorem mtsC_x {E : Env} (h : E.ok) : CxEOk Try.prog E (CxE.no) := CxE.no_ok _ _
theorem mtsC_cx (E : Env) (h : E.ok) (h1 : E.lo = 0) (h2 : E.hi = 1000000000000000) : Cx.ok mtsC Try.prog E := ⟨tt_ok, qt_ok, bt_ok, mtsC_si h, h, h1, h2, mixed_ok, mtsC_x h⟩
theorem mtsC_from (lo hi : Nat) (E : Env) (h : E.ok) (h1 : E.lo = lo) (h2 : E.hi = hi) : Cx.ok (Cx.from mtsC lo hi) Try.prog E := ⟨tt_ok, qt_ok, bt_ok, mtsC_si h, h, h1, h2, mixed_ok, mtsC_x h⟩
theorem mts_fn : hasFn Try.prog 84 := ⟨_, Try.func84, by rfl, by rfl⟩
theorem mts_sp {E : Env} (hE : E.ok) : SpecOk Try.prog E 84 mtsSp := by
  refine spec_of_vc (C := mtsC) mts_fn Try.func84 (by kernel_rfl) mtsC_cx (fun x hl hx => ?_) hE
  obtain ⟨l, sd, _⟩ := x
  obtain ⟨hx1, hx2⟩ := hx
  have hx1 : l.length ≤ 1000 := hx1
  have hx2 : sd.length ≤ 1000 := hx2
  cbv
  (repeat' (first | ((with_reducible refine And.intro (fun h => ?_) (fun h => ?_)) <;> (first | with_reducible exact (tf h (by assumption)).elim | with_reducible exact (tf (by assumption) h).elim | cbv)) | ((with_reducible show JoinT (fun s K => vc _ (Code.region _ _ true) s K) _ _ _ _ _); (with_reducible apply JoinT.mg2); (focus (cbv; (repeat' (first | ((with_reducible refine And.intro (fun h => ?_) (fun h => ?_)) <;> (first | with_reducible exact (tf h (by assumption)).elim | with_reducible exact (tf (by assumption) h).elim | cbv)) | ((with_reducible first | refine Cb.mk ?_ | refine Lz.mk ?_ | refine JoinT.left ?_ | refine AllT.mk (fun x hx => ?_)); cbv) | ((with_reducible refine Ob.mk (fun _ => ?_) ?_); rotate_left 1) | (with_reducible first | refine Mg.mk (Exists.intro ?_ (And.intro ?_ ?_)) | rfl | refine Fin.mk ?_ | exact True.intro | refine And.intro ?_ ?_))); (all_goals (try (have du : Unit := (); have dv : Unit := (); first | exact Goes.self (Ex2.mk ⟨dv, du, trivial, trivial, rfl⟩) | exact Goes.self (Ex2.mk ⟨x, du, hx, trivial, rfl⟩) | (rename_i xa hxa; exact Goes.self (Ex2.mk ⟨xa, x, hxa, hx, rfl⟩))))); (all_goals (fail_if_success (with_reducible first | show Goes _ _ _ _ | show (∃ _, unr _ _ _ _ _ _))))))) | ((with_reducible first | refine Cb.mk ?_ | refine Lz.mk ?_ | refine JoinT.left ?_ | refine AllT.mk (fun x hx => ?_)); cbv) | ((with_reducible refine Ob.mk (fun _ => ?_) ?_); rotate_left 1) | (with_reducible first | refine Mg.mk (Exists.intro ?_ (And.intro ?_ ?_)) | rfl | refine Fin.mk ?_ | exact True.intro | refine And.intro ?_ ?_)))
  with_reducible refine loop_hv [(5, 900000, 30, selE)] (rangeN 7 5 ++ rangeN 15 22) [] [900000] (fun z b t y => 0 ≤ z 14 ∧ z 14 ≤ (l.length : Int) ∧ y 900000 selE = meetsF (l.take (z 14).toNat) sd) (fun z b t y => ((l.length : Int) - z 14).toNat) (by cbv) (by cbv) ?_ ?_ (fun z1 b1 t1 u1 y1 R1 hP1 hR1 => ?_)
  · refine EndOk.mk (by cbv) (by cbv) (by cbv; repeat' (first | exact True.intro | exact rfl | with_reducible refine And.intro ?_ ?_)) (by cbv; repeat' (first | exact True.intro | exact rfl | with_reducible refine And.intro ?_ ?_)) (by cbv; repeat' (first | exact True.intro | exact rfl | with_reducible refine And.intro ?_ ?_))
  · intro zq bq tq yq hUq
    have q14 := hUq.z 14
    cbv at q14
    replace q14 := q14.eq
    simp only [atI, vem, veq, ne_eq, cmpI, arI, dvI, shI, SV.den] at q14
    have qy900000 := hUq.y 900000 (selE)
    cbv at qy900000
    replace qy900000 := qy900000.eq
    simp only [atY, convL_self, vem, veq, ne_eq, cmpI, arI, dvI, shI, SV.den] at qy900000
    clear hUq
    try dsimp only [Shp.D, Shp.Ds, Shp.dflt] at *
    try simp only [vem, veq, ne_eq, cmpI, arI, dvI, shI, SV.den, convL_self] at *
    rw [← q14, ← qy900000]
    exact ⟨by omega, by omega, rfl⟩
  obtain ⟨p1, p2, p3⟩ := hP1
  have p4 : (y1 900000 selE).length ≤ 1000000 := by
    rw [p3]
    refine Nat.le_trans (meetsF_length _ _) ?_
    have h1 : (l.take (z1 14).toNat).length ≤ 1000 := by rw [List.length_take]; omega
    exact Nat.mul_le_mul h1 hx2
  cbv
  (repeat' (first | ((with_reducible refine And.intro (fun h => ?_) (fun h => ?_)) <;> (first | with_reducible exact (tf h (by assumption)).elim | with_reducible exact (tf (by assumption) h).elim | cbv)) | ((with_reducible show JoinT (fun s K => vc _ (Code.region _ _ true) s K) _ _ _ _ _); (with_reducible apply JoinT.mg2); (focus (cbv; (repeat' (first | ((with_reducible refine And.intro (fun h => ?_) (fun h => ?_)) <;> (first | with_reducible exact (tf h (by assumption)).elim | with_reducible exact (tf (by assumption) h).elim | cbv)) | ((with_reducible first | refine Cb.mk ?_ | refine Lz.mk ?_ | refine JoinT.left ?_ | refine AllT.mk (fun x hx => ?_)); cbv) | ((with_reducible refine Ob.mk (fun _ => ?_) ?_); rotate_left 1) | (with_reducible first | refine Mg.mk (Exists.intro ?_ (And.intro ?_ ?_)) | rfl | refine Fin.mk ?_ | exact True.intro | refine And.intro ?_ ?_))); (all_goals (try (have du : Unit := (); have dv : Unit := (); first | exact Goes.self (Ex2.mk ⟨dv, du, trivial, trivial, rfl⟩) | exact Goes.self (Ex2.mk ⟨x, du, hx, trivial, rfl⟩) | (rename_i xa hxa; exact Goes.self (Ex2.mk ⟨xa, x, hxa, hx, rfl⟩))))); (all_goals (fail_if_success (with_reducible first | show Goes _ _ _ _ | show (∃ _, unr _ _ _ _ _ _))))))) | ((with_reducible first | refine Cb.mk ?_ | refine Lz.mk ?_ | refine JoinT.left ?_ | refine AllT.mk (fun x hx => ?_)); cbv) | ((with_reducible refine Ob.mk (fun _ => ?_) ?_); rotate_left 1) | (with_reducible first | refine Mg.mk (Exists.intro ?_ (And.intro ?_ ?_)) | rfl | refine Fin.mk ?_ | exact True.intro | refine And.intro ?_ ?_)))
  all_goals first | (with_reducible show (∃ _, unr _ _ _ _ _ _); skip) | (with_reducible show Goes _ _ _ _; skip) | (with_reducible show JoinT _ _ _ _ _ _; skip) | (first | ((try dsimp only [Shp.D, Shp.Ds, Shp.dflt] at *); simp only [vem, veq, ne_eq, cmpI, arI, dvI, shI, SV.den, obLt, elemAt, obApp, partL, obPart, lowD, highD, mxOk, convL_self, zerosB, List.length_replicate, vln] at *; (try dsimp only [Shp.D, Shp.Ds, Shp.dflt, Shp.dflts] at *); done) | ((try dsimp only [Shp.D, Shp.Ds, Shp.dflt] at *); simp only [vem, veq, ne_eq, cmpI, arI, dvI, shI, SV.den, obLt, elemAt, obApp, partL, obPart, lowD, highD, mxOk, convL_self, zerosB, List.length_replicate, vln] at *; (try dsimp only [Shp.D, Shp.Ds, Shp.dflt, Shp.dflts] at *); omega) | ((try dsimp only [Shp.D, Shp.Ds, Shp.dflt] at *); simp only [vem, veq, ne_eq, cmpI, arI, dvI, shI, SV.den, obLt, elemAt, obApp, partL, obPart, lowD, highD, mxOk, convL_self, zerosB, List.length_replicate, vln] at *; (try dsimp only [Shp.D, Shp.Ds, Shp.dflt, Shp.dflts] at *); rw [p3, List.take_of_length_le (by omega)]))
  with_reducible refine loop_hv [] (rangeN 9 3 ++ rangeN 21 15) [] [900000] (fun z b t y => 0 ≤ z 20 ∧ z 20 ≤ (sd.length : Int) ∧ y 900000 selE = meetsF (l.take (z1 14).toNat) sd ++ (sd.take (z 20).toNat).filterMap (meetT (l.getD (z1 14).toNat (0, 0, 0, (0, 0, 0, ()), (0, 0, 0, ()), ())))) (fun z b t y => ((sd.length : Int) - z 20).toNat) (by cbv) (by cbv) ?_ ?_ (fun z2 b2 t2 u2 y2 R2 hP2 hR2 => ?_)
  · refine EndOk.mk (by cbv) (by cbv) (by cbv; repeat' (first | exact True.intro | exact rfl | with_reducible refine And.intro ?_ ?_)) (by cbv; repeat' (first | exact True.intro | exact rfl | with_reducible refine And.intro ?_ ?_)) (by cbv; repeat' (first | exact True.intro | exact rfl | with_reducible refine And.intro ?_ ?_))
  · intro zq bq tq yq hUq
    have q20 := hUq.z 20
    cbv at q20
    replace q20 := q20.eq
    simp only [atI, vem, veq, ne_eq, cmpI, arI, dvI, shI, SV.den] at q20
    have qy900000 := hUq.y 900000 (selE)
    cbv at qy900000
    replace qy900000 := qy900000.eq
    simp only [atY, convL_self, vem, veq, ne_eq, cmpI, arI, dvI, shI, SV.den] at qy900000
    clear hUq
    try dsimp only [Shp.D, Shp.Ds, Shp.dflt] at *
    try simp only [vem, veq, ne_eq, cmpI, arI, dvI, shI, SV.den, convL_self] at *
    rw [← q20, ← qy900000]
    exact ⟨by omega, by omega, by rw [p3]; simp⟩
  obtain ⟨r1, r2, r3⟩ := hP2
  have r4 : (y2 900000 selE).length ≤ 1001000 := by
    rw [r3, List.length_append, ← p3]
    have h1 := List.length_filterMap_le (meetT (l.getD (z1 14).toNat (0, 0, 0, (0, 0, 0, ()), (0, 0, 0, ()), ()))) (sd.take (z2 20).toNat)
    rw [List.length_take] at h1
    omega
  cbv
  (repeat' (first | ((with_reducible refine And.intro (fun h => ?_) (fun h => ?_)) <;> (first | with_reducible exact (tf h (by assumption)).elim | with_reducible exact (tf (by assumption) h).elim | cbv)) | ((with_reducible show JoinT (fun s K => vc _ (Code.region _ _ true) s K) _ _ _ _ _); (with_reducible apply JoinT.mg2); (focus (cbv; (repeat' (first | ((with_reducible refine And.intro (fun h => ?_) (fun h => ?_)) <;> (first | with_reducible exact (tf h (by assumption)).elim | with_reducible exact (tf (by assumption) h).elim | cbv)) | ((with_reducible first | refine Cb.mk ?_ | refine Lz.mk ?_ | refine JoinT.left ?_ | refine AllT.mk (fun x hx => ?_)); cbv) | ((with_reducible refine Ob.mk (fun _ => ?_) ?_); rotate_left 1) | (with_reducible first | refine Mg.mk (Exists.intro ?_ (And.intro ?_ ?_)) | rfl | refine Fin.mk ?_ | exact True.intro | refine And.intro ?_ ?_))); (all_goals (try (have du : Unit := (); have dv : Unit := (); first | exact Goes.self (Ex2.mk ⟨dv, du, trivial, trivial, rfl⟩) | exact Goes.self (Ex2.mk ⟨x, du, hx, trivial, rfl⟩) | (rename_i xa hxa; exact Goes.self (Ex2.mk ⟨xa, x, hxa, hx, rfl⟩))))); (all_goals (fail_if_success (with_reducible first | show Goes _ _ _ _ | show (∃ _, unr _ _ _ _ _ _))))))) | ((with_reducible first | refine Cb.mk ?_ | refine Lz.mk ?_ | refine JoinT.left ?_ | refine AllT.mk (fun x hx => ?_)); cbv) | ((with_reducible refine Ob.mk (fun _ => ?_) ?_); rotate_left 1) | (with_reducible first | refine Mg.mk (Exists.intro ?_ (And.intro ?_ ?_)) | rfl | refine Fin.mk ?_ | exact True.intro | refine And.intro ?_ ?_)))
  all_goals first | (with_reducible show (∃ _, unr _ _ _ _ _ _); skip) | (with_reducible show Goes _ _ _ _; skip) | (with_reducible show JoinT _ _ _ _ _ _; skip) | (first | ((try dsimp only [Shp.D, Shp.Ds, Shp.dflt] at *); simp only [vem, veq, ne_eq, cmpI, arI, dvI, shI, SV.den, obLt, elemAt, obApp, partL, obPart, lowD, highD, mxOk, convL_self, zerosB, List.length_replicate, vln] at *; (try dsimp only [Shp.D, Shp.Ds, Shp.dflt, Shp.dflts] at *); done) | ((try dsimp only [Shp.D, Shp.Ds, Shp.dflt] at *); simp only [vem, veq, ne_eq, cmpI, arI, dvI, shI, SV.den, obLt, elemAt, obApp, partL, obPart, lowD, highD, mxOk, convL_self, zerosB, List.length_replicate, vln] at *; (try dsimp only [Shp.D, Shp.Ds, Shp.dflt, Shp.dflts] at *); omega))
  · with_reducible refine hR2 _ ?_ (fun zq bq tq yq hUq => ?_)
    · refine EndOk.mk (by cbv) (by cbv) (by cbv; repeat' (first | exact True.intro | exact rfl | with_reducible refine And.intro ?_ ?_)) (by cbv; repeat' (first | exact True.intro | exact rfl | with_reducible refine And.intro ?_ ?_)) (by cbv; repeat' (first | exact True.intro | exact rfl | with_reducible refine And.intro ?_ ?_))
    have q20 := hUq.z 20
    cbv at q20
    replace q20 := q20.eq
    simp only [atI, vem, veq, ne_eq, cmpI, arI, dvI, shI, SV.den] at q20
    have qy900000 := hUq.y 900000 (selE)
    cbv at qy900000
    replace qy900000 := qy900000.eq
    simp only [atY, convL_self, vem, veq, ne_eq, cmpI, arI, dvI, shI, SV.den] at qy900000
    clear hUq hR2
    try dsimp only [Shp.D, Shp.Ds, Shp.dflt] at *
    try simp only [vem, veq, ne_eq, cmpI, arI, dvI, shI, SV.den, elemAt, convL_self] at *
    try dsimp only [Shp.D, Shp.Ds, Shp.dflt, Shp.dflts] at *
    refine ⟨⟨by omega, by omega, ?_⟩, by omega⟩
    rw [← qy900000, r3, show (zq 20).toNat = (z2 20).toNat + 1 by omega, filterMap_take1 _ sd (0, 0, 0, (0, 0, 0, ()), (0, 0, 0, ()), ()) (by omega), List.append_assoc, meetT_yes hx.1 h]
    rfl
  · with_reducible refine hR2 _ ?_ (fun zq bq tq yq hUq => ?_)
    · refine EndOk.mk (by cbv) (by cbv) (by cbv; repeat' (first | exact True.intro | exact rfl | with_reducible refine And.intro ?_ ?_)) (by cbv; repeat' (first | exact True.intro | exact rfl | with_reducible refine And.intro ?_ ?_)) (by cbv; repeat' (first | exact True.intro | exact rfl | with_reducible refine And.intro ?_ ?_))
    have q20 := hUq.z 20
    cbv at q20
    replace q20 := q20.eq
    simp only [atI, vem, veq, ne_eq, cmpI, arI, dvI, shI, SV.den] at q20
    have qy900000 := hUq.y 900000 (selE)
    cbv at qy900000
    replace qy900000 := qy900000.eq
    simp only [atY, convL_self, vem, veq, ne_eq, cmpI, arI, dvI, shI, SV.den] at qy900000
    clear hUq hR2
    try dsimp only [Shp.D, Shp.Ds, Shp.dflt] at *
    try simp only [vem, veq, ne_eq, cmpI, arI, dvI, shI, SV.den, elemAt, convL_self] at *
    try dsimp only [Shp.D, Shp.Ds, Shp.dflt, Shp.dflts] at *
    refine ⟨⟨by omega, by omega, ?_⟩, by omega⟩
    rw [← qy900000, r3, show (zq 20).toNat = (z2 20).toNat + 1 by omega, filterMap_take1 _ sd (0, 0, 0, (0, 0, 0, ()), (0, 0, 0, ()), ()) (by omega), meetT_no hx.1 h]
    simp
  · with_reducible refine hR1 _ ?_ (fun zq bq tq yq hUq => ?_)
    · refine EndOk.mk (by cbv) (by cbv) (by cbv; repeat' (first | exact True.intro | exact rfl | with_reducible refine And.intro ?_ ?_)) (by cbv; repeat' (first | exact True.intro | exact rfl | with_reducible refine And.intro ?_ ?_)) (by cbv; repeat' (first | exact True.intro | exact rfl | with_reducible refine And.intro ?_ ?_))
    have q14 := hUq.z 14
    cbv at q14
    replace q14 := q14.eq
    simp only [atI, vem, veq, ne_eq, cmpI, arI, dvI, shI, SV.den] at q14
    have qy900000 := hUq.y 900000 (selE)
    cbv at qy900000
    replace qy900000 := qy900000.eq
    simp only [atY, convL_self, vem, veq, ne_eq, cmpI, arI, dvI, shI, SV.den] at qy900000
    clear hUq hR1
    try dsimp only [Shp.D, Shp.Ds, Shp.dflt] at *
    try simp only [vem, veq, ne_eq, cmpI, arI, dvI, shI, SV.den, elemAt, convL_self] at *
    try dsimp only [Shp.D, Shp.Ds, Shp.dflt, Shp.dflts] at *
    refine ⟨⟨by omega, by omega, ?_⟩, by omega⟩
    rw [← qy900000, r3, show (zq 14).toNat = (z1 14).toNat + 1 by omega, List.take_of_length_le (l := sd) (by omega)]
    exact (fm_take (fun s => sd.filterMap (meetT s)) l (0, 0, 0, (0, 0, 0, ()), (0, 0, 0, ()), ()) (by omega)).symm
/-! Narrow. -/
def narrowF (l r : List SelT) (b : BoxT) : List SelT × List SelT × Int :=
  if (meetsF l (sideF b true)).length = 0 ∨ (meetsF r (sideF b false)).length = 0 then ([], [], 17)
  else if 16 < (meetsF l (sideF b true)).length ∨ 16 < (meetsF r (sideF b false)).length then ([], [], 10)
  else (meetsF l (sideF b true), meetsF r (sideF b false), 0)
theorem narrow_17 {l r A C S T : List SelT} {b : BoxT} (hS : S = sideF b true) (hT : T = sideF b false) (hA : A = meetsF l S) (hC : C = meetsF r T) (h : (A.length : Int) = 0 ∨ (C.length : Int) = 0) : ([], [], 17) = narrowF l r b := by
  subst hS hT hA hC
  unfold narrowF; rw [if_pos (by omega)]
theorem narrow_10 {l r A C S T : List SelT} {b : BoxT} (hS : S = sideF b true) (hT : T = sideF b false) (hA : A = meetsF l S) (hC : C = meetsF r T) (h1 : ¬ (A.length : Int) = 0) (h2 : ¬ (C.length : Int) = 0) (h : (A.length : Int) > 16 ∨ (C.length : Int) > 16) : ([], [], 10) = narrowF l r b := by
  subst hS hT hA hC
  unfold narrowF; rw [if_neg (by omega), if_pos (by omega)]
theorem narrow_0 {l r A C S T : List SelT} {b : BoxT} (hS : S = sideF b true) (hT : T = sideF b false) (hA : A = meetsF l S) (hC : C = meetsF r T) (h1 : ¬ (A.length : Int) = 0) (h2 : ¬ (C.length : Int) = 0) (h3 : ¬ (A.length : Int) > 16) (h4 : ¬ (C.length : Int) > 16) : (A, C, 0) = narrowF l r b := by
  subst hS hT hA hC
  unfold narrowF; rw [if_neg (by omega), if_neg (by omega)]
abbrev nrwPre : Shp.Ds [.sl selE, .sl selE, boxE] → Prop := fun x => x.1.length ≤ 1000 ∧ x.2.1.length ≤ 1000 ∧ 0 ≤ x.2.2.1.2.2.2.2.1 ∧ x.2.2.1.2.2.2.2.1 ≤ 1000 ∧ x.2.2.1.2.2.2.2.2.1 ≤ 1000
abbrev nrwSp : Spec := fnSpec [.sl selE, .sl selE, boxE] [.sl selE, .sl selE, .int .i64] [30, 30] nrwPre fun x y => (y.1, y.2.1, y.2.2.1) = narrowF x.1 x.2.1 x.2.2.1
def nrwC_t : SpecT := nd0 84 (lf0 47 (sdeSp)) (lf0 84 (mtsSp))
def nrwC : Cx := ⟨tt, qt, bt, st, nrwC_t, 0, 1000000000000000, fun _ => none, false, CxE.no⟩
theorem nrwC_si {E : Env} (h : E.ok) : SpecsOk Try.prog E (CxE.no) nrwC_t (fun _ => none) := ⟨(nd0_ok (lf0_ok (sde_sp h)) (lf0_ok (mts_sp h))), noI_ok _ _ _⟩
theorem nrwC_x {E : Env} (h : E.ok) : CxEOk Try.prog E (CxE.no) := CxE.no_ok _ _
theorem nrwC_cx (E : Env) (h : E.ok) (h1 : E.lo = 0) (h2 : E.hi = 1000000000000000) : Cx.ok nrwC Try.prog E := ⟨tt_ok, qt_ok, bt_ok, nrwC_si h, h, h1, h2, mixed_ok, nrwC_x h⟩
theorem nrwC_from (lo hi : Nat) (E : Env) (h : E.ok) (h1 : E.lo = lo) (h2 : E.hi = hi) : Cx.ok (Cx.from nrwC lo hi) Try.prog E := ⟨tt_ok, qt_ok, bt_ok, nrwC_si h, h, h1, h2, mixed_ok, nrwC_x h⟩
theorem nrw_fn : hasFn Try.prog 46 := ⟨_, Try.func46, by rfl, by rfl⟩
theorem nrw_sp {E : Env} (hE : E.ok) : SpecOk Try.prog E 46 nrwSp := by
  refine spec_of_vc (C := nrwC) nrw_fn Try.func46 (by kernel_rfl) nrwC_cx (fun x hl hx => ?_) hE
  obtain ⟨l, r, ⟨⟨f1, h1, l1, ⟨⟩⟩, ⟨f2, h2, l2, ⟨⟩⟩, ⟨f3, h3, l3, ⟨⟩⟩, ⟨f4, h4, l4, ⟨⟩⟩, plo, phi, ⟨a1, a2, ⟨⟩⟩, ⟨c1, c2, ⟨⟩⟩, ⟨⟩⟩, ⟨⟩⟩ := x
  obtain ⟨g1, g2, g3, g4, g5⟩ := hx
  have g1 : l.length ≤ 1000 := g1
  have g2 : r.length ≤ 1000 := g2
  have g3 : 0 ≤ plo := g3
  have g4 : plo ≤ 1000 := g4
  have g5 : phi ≤ 1000 := g5
  cbv
  (repeat' (first | ((with_reducible refine And.intro (fun h => ?_) (fun h => ?_)) <;> (first | with_reducible exact (tf h (by assumption)).elim | with_reducible exact (tf (by assumption) h).elim | cbv)) | ((with_reducible show JoinT (fun s K => vc _ (Code.region _ _ true) s K) _ _ _ _ _); (with_reducible apply JoinT.mg2); (focus (cbv; (repeat' (first | ((with_reducible refine And.intro (fun h => ?_) (fun h => ?_)) <;> (first | with_reducible exact (tf h (by assumption)).elim | with_reducible exact (tf (by assumption) h).elim | cbv)) | ((with_reducible first | refine Cb.mk ?_ | refine Lz.mk ?_ | refine JoinT.left ?_ | refine AllT.mk (fun x hx => ?_)); cbv) | ((with_reducible refine Ob.mk (fun _ => ?_) ?_); rotate_left 1) | (with_reducible first | refine Mg.mk (Exists.intro ?_ (And.intro ?_ ?_)) | rfl | refine Fin.mk ?_ | exact True.intro | refine And.intro ?_ ?_))); (all_goals (try (have du : Unit := (); have dv : Unit := (); first | exact Goes.self (Ex2.mk ⟨dv, du, trivial, trivial, rfl⟩) | exact Goes.self (Ex2.mk ⟨x, du, hx, trivial, rfl⟩) | (rename_i xa hxa; exact Goes.self (Ex2.mk ⟨xa, x, hxa, hx, rfl⟩))))); (all_goals (fail_if_success (with_reducible first | show Goes _ _ _ _ | show (∃ _, unr _ _ _ _ _ _))))))) | ((with_reducible first | refine Cb.mk ?_ | refine Lz.mk ?_ | refine JoinT.left ?_ | refine AllT.mk (fun x hx => ?_)); cbv) | ((with_reducible refine Ob.mk (fun _ => ?_) ?_); rotate_left 1) | (with_reducible first | refine Mg.mk (Exists.intro ?_ (And.intro ?_ ?_)) | rfl | refine Fin.mk ?_ | exact True.intro | refine And.intro ?_ ?_)))
  all_goals first | (with_reducible show (∃ _, unr _ _ _ _ _ _); skip) | (with_reducible show Goes _ _ _ _; skip) | (with_reducible show JoinT _ _ _ _ _ _; skip) | (first | ((try dsimp only [Shp.D, Shp.Ds, Shp.dflt] at *); simp only [vem, veq, ne_eq, cmpI, arI, dvI, shI, SV.den, obLt, elemAt, obApp, partL, obPart, lowD, highD, mxOk, convL_self, zerosB, List.length_replicate, vln] at *; (try dsimp only [Shp.D, Shp.Ds, Shp.dflt, Shp.dflts] at *); done) | ((try dsimp only [Shp.D, Shp.Ds, Shp.dflt] at *); simp only [vem, veq, ne_eq, cmpI, arI, dvI, shI, SV.den, obLt, elemAt, obApp, partL, obPart, lowD, highD, mxOk, convL_self, zerosB, List.length_replicate, vln] at *; (try dsimp only [Shp.D, Shp.Ds, Shp.dflt, Shp.dflts] at *); omega) | ((try dsimp only [Shp.D, Shp.Ds, Shp.dflt] at *); simp only [vem, veq, ne_eq, cmpI, arI, dvI, shI, SV.den, obLt, elemAt, obApp, partL, obPart, lowD, highD, mxOk, convL_self, zerosB, List.length_replicate, vln] at *; (try dsimp only [Shp.D, Shp.Ds, Shp.dflt, Shp.dflts] at *); rw [hx.1]; exact Nat.le_trans (sideF_length _ _) (by decide)) | ((try dsimp only [Shp.D, Shp.Ds, Shp.dflt] at *); simp only [vem, veq, ne_eq, cmpI, arI, dvI, shI, SV.den, obLt, elemAt, obApp, partL, obPart, lowD, highD, mxOk, convL_self, zerosB, List.length_replicate, vln] at *; (try dsimp only [Shp.D, Shp.Ds, Shp.dflt, Shp.dflts] at *); exact narrow_17 (‹_ = sideF _ true ∧ _›).1 (‹_ = sideF _ false ∧ _›).1 (‹_ = meetsF l _ ∧ _›).1 (‹_ = meetsF r _ ∧ _›).1 (by omega)) | ((try dsimp only [Shp.D, Shp.Ds, Shp.dflt] at *); simp only [vem, veq, ne_eq, cmpI, arI, dvI, shI, SV.den, obLt, elemAt, obApp, partL, obPart, lowD, highD, mxOk, convL_self, zerosB, List.length_replicate, vln] at *; (try dsimp only [Shp.D, Shp.Ds, Shp.dflt, Shp.dflts] at *); exact narrow_10 (‹_ = sideF _ true ∧ _›).1 (‹_ = sideF _ false ∧ _›).1 (‹_ = meetsF l _ ∧ _›).1 (‹_ = meetsF r _ ∧ _›).1 (by omega) (by omega) (by omega)) | ((try dsimp only [Shp.D, Shp.Ds, Shp.dflt] at *); simp only [vem, veq, ne_eq, cmpI, arI, dvI, shI, SV.den, obLt, elemAt, obApp, partL, obPart, lowD, highD, mxOk, convL_self, zerosB, List.length_replicate, vln] at *; (try dsimp only [Shp.D, Shp.Ds, Shp.dflt, Shp.dflts] at *); exact narrow_0 (‹_ = sideF _ true ∧ _›).1 (‹_ = sideF _ false ∧ _›).1 (‹_ = meetsF l _ ∧ _›).1 (‹_ = meetsF r _ ∧ _›).1 (by omega) (by omega) (by omega) (by omega)))
end Go.Proofs.Ytiinlanpinanhaa.V
