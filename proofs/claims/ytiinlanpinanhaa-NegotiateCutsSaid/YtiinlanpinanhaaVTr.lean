/- Contracts: transforms in lists (slices.Clone, Index, Contains), the set of types. -/
import Derived.Test.YtiinlanpinanhaaVg
import Derived.Test.YtiinlanpinanhaaVf
import Derived.Test.YtiinlanpinanhaaVB
set_option linter.unusedVariables false
set_option linter.unusedSimpArgs false
namespace Go.Proofs.Ytiinlanpinanhaa.V
open Go.RowKit
set_option maxHeartbeats 8000000
set_option maxRecDepth 100000
/-- A transform: type, number, length of the key. -/
abbrev trE : Shp := .st [.int .i64, .int .i64, .int .i64]
abbrev TrT : Type := Int × Int × Int × Unit
abbrev trD0 : TrT := (0, 0, 0, ())
/-- A proposal: number, protocol, SPI, transforms. -/
abbrev prE : Shp := .st [.int .i64, .int .i64, .sl .byte, .sl trE]
abbrev PrT : Type := Int × Int × List UInt8 × List TrT × Unit
abbrev cloSp : Spec := fnSpec [.sl .byte] [.sl .byte] [5] (fun _ => True) fun x y => y.1 = x.1
theorem clo_fn : hasFn Try.prog 97 := ⟨_, Try.func97, by rfl, by rfl⟩
theorem clo_sp {E : Env} (hE : E.ok) : SpecOk Try.prog E 97 cloSp := by
  refine spec_of_vc (C := noC) clo_fn Try.func97 (by kernel_rfl) noC_cx (fun x hl hx => ?_) hE
  obtain ⟨l, u⟩ := x
  have hlen : l.length ≤ 140737488355328 := by simp only [Shp.lims, Shp.lim] at hl; exact hl.1.1
  cbv
  (repeat' (first | ((with_reducible refine And.intro (fun h => ?_) (fun h => ?_)) <;> (first | with_reducible exact (tf h (by assumption)).elim | with_reducible exact (tf (by assumption) h).elim | cbv)) | ((with_reducible first | refine Cb.mk ?_ | refine Lz.mk ?_ | refine JoinT.left ?_ | refine AllT.mk (fun x hx => ?_)); cbv) | ((with_reducible refine Ob.mk (fun _ => ?_) ?_); rotate_left 1) | (with_reducible first | refine Mg.mk (Exists.intro ?_ (And.intro ?_ ?_)) | rfl | refine Fin.mk ?_ | exact True.intro | refine And.intro ?_ ?_)))
  all_goals first | (with_reducible show (∃ _, unr _ _ _ _ _ _); skip) | (with_reducible show Goes _ _ _ _; skip) | (with_reducible show JoinT _ _ _ _ _ _; skip) | (first | (exact (List.eq_nil_of_length_eq_zero h).symm) | ((try dsimp only [Shp.D, Shp.Ds, Shp.dflt] at *); simp only [vem, veq, ne_eq, cmpI, arI, dvI, shI, SV.den, obLt, elemAt, obApp, partL, obPart, lowD, highD, mxOk, convL_self, zerosB, List.length_replicate, vln] at *; (try dsimp only [Shp.D, Shp.Ds, Shp.dflt, Shp.dflts] at *); done) | ((try dsimp only [Shp.D, Shp.Ds, Shp.dflt] at *); simp only [vem, veq, ne_eq, cmpI, arI, dvI, shI, SV.den, obLt, elemAt, obApp, partL, obPart, lowD, highD, mxOk, convL_self, zerosB, List.length_replicate, vln] at *; (try dsimp only [Shp.D, Shp.Ds, Shp.dflt, Shp.dflts] at *); omega) | ((try dsimp only [Shp.D, Shp.Ds, Shp.dflt] at *); simp only [vem, veq, ne_eq, cmpI, arI, dvI, shI, SV.den, obLt, elemAt, obApp, partL, obPart, lowD, highD, mxOk, convL_self, zerosB, List.length_replicate, vln] at *; (try dsimp only [Shp.D, Shp.Ds, Shp.dflt, Shp.dflts] at *); simp; done))
def eqT (a b : TrT) : Bool := a.1 == b.1 && a.2.1 == b.2.1 && a.2.2.1 == b.2.2.1
theorem eqT_iff {a b : TrT} : eqT a b = true ↔ a = b := by
  obtain ⟨a1, a2, a3, u⟩ := a
  obtain ⟨b1, b2, b3, u'⟩ := b
  simp [eqT, and_assoc]
theorem eqT_no {a b c : Int} {t : TrT} (h : ¬ a = t.1 ∨ ¬ b = t.2.1 ∨ ¬ c = t.2.2.1) : eqT (a, b, c, ()) t = false := by
  simp only [eqT, Bool.and_eq_false_iff, beq_eq_false_iff_ne, ne_eq]
  rcases h with h | h | h
  · exact .inl (.inl h)
  · exact .inl (.inr h)
  · exact .inr h
def hasT (l : List TrT) (t : TrT) : Bool := l.any (eqT t)
theorem anyd {α : Type} (l : List α) (p : α → Bool) (d : α) (k : Nat) (h : k < l.length) : (l.drop k).any p = (p (l.getD k d) || (l.drop (k + 1)).any p) := by
  rw [List.drop_eq_getElem_cons h, List.any_cons, List.getD_eq_getElem?_getD, List.getElem?_eq_getElem h]
  rfl
theorem any_yes {α : Type} {l : List α} {p : α → Bool} (d : α) {k : Nat} (hk : k < l.length) (h : p (l.getD k d) = true) : l.any p = true := by
  rw [List.any_eq_true]
  refine ⟨l[k], List.getElem_mem hk, ?_⟩
  rw [List.getD_eq_getElem?_getD, List.getElem?_eq_getElem hk] at h
  exact h
theorem any_next {α : Type} {l : List α} {p : α → Bool} (d : α) {k : Nat} (hk : k < l.length) (hr : (l.drop k).any p = l.any p) (h : p (l.getD k d) = false) : (l.drop (k + 1)).any p = l.any p := by
  rw [← hr, anyd l p d k hk, h, Bool.false_or]
theorem idx_fn : hasFn Try.prog 100 := ⟨_, Try.func100, by rfl, by rfl⟩
abbrev idxSp : Spec := fnSpec [.sl trE, trE] [.int .i64] [] (fun _ => True) fun x y => decide (0 ≤ y.1) = hasT x.1 x.2.1
theorem idx_sp {E : Env} (hE : E.ok) : SpecOk Try.prog E 100 idxSp := by
  refine spec_of_vc (C := noC) idx_fn Try.func100 (by kernel_rfl) noC_cx (fun x hl hx => ?_) hE
  obtain ⟨l, ⟨ta, tb, tc, u1⟩, u2⟩ := x
  have hlen : l.length ≤ 140737488355328 := by simp only [Shp.lims, Shp.lim] at hl; exact hl.1.1
  cbv
  (repeat' (first | ((with_reducible refine And.intro (fun h => ?_) (fun h => ?_)) <;> (first | with_reducible exact (tf h (by assumption)).elim | with_reducible exact (tf (by assumption) h).elim | cbv)) | ((with_reducible first | refine Cb.mk ?_ | refine Lz.mk ?_ | refine JoinT.left ?_ | refine AllT.mk (fun x hx => ?_)); cbv) | ((with_reducible refine Ob.mk (fun _ => ?_) ?_); rotate_left 1) | (with_reducible first | refine Mg.mk (Exists.intro ?_ (And.intro ?_ ?_)) | rfl | refine Fin.mk ?_ | exact True.intro | refine And.intro ?_ ?_)))
  with_reducible refine loop_hv [] (5 :: rangeN 9 10) [] [] (fun z b t y => 0 ≤ z 8 ∧ z 8 ≤ (l.length : Int) ∧ (l.drop (z 8).toNat).any (eqT (ta, tb, tc, ())) = l.any (eqT (ta, tb, tc, ()))) (fun z b t y => ((l.length : Int) - z 8).toNat) (by cbv) (by cbv) ?_ ?_ (fun z1 b1 t1 u1 y1 R1 hP1 hR1 => ?_)
  · refine EndOk.mk (by cbv) (by cbv) (by cbv; repeat' (first | exact True.intro | exact rfl | with_reducible refine And.intro ?_ ?_)) (by cbv; repeat' (first | exact True.intro | exact rfl | with_reducible refine And.intro ?_ ?_)) (by cbv; repeat' (first | exact True.intro | exact rfl | with_reducible refine And.intro ?_ ?_))
  · intro zq bq tq yq hUq
    have q8 := hUq.z 8
    cbv at q8
    replace q8 := q8.eq
    simp only [atI, vem, veq, ne_eq, cmpI, arI, dvI, shI, SV.den] at q8
    clear hUq
    try dsimp only [Shp.D, Shp.Ds, Shp.dflt] at *
    try simp only [vem, veq, ne_eq, cmpI, arI, dvI, shI, SV.den, convL_self] at *
    rw [← q8]
    exact ⟨by omega, by omega, rfl⟩
  obtain ⟨p1, p2, p3⟩ := hP1
  cbv
  (repeat' (first | ((with_reducible refine And.intro (fun h => ?_) (fun h => ?_)) <;> (first | with_reducible exact (tf h (by assumption)).elim | with_reducible exact (tf (by assumption) h).elim | cbv)) | ((with_reducible first | refine Cb.mk ?_ | refine Lz.mk ?_ | refine JoinT.left ?_ | refine AllT.mk (fun x hx => ?_)); cbv) | ((with_reducible refine Ob.mk (fun _ => ?_) ?_); rotate_left 1) | (with_reducible first | refine Mg.mk (Exists.intro ?_ (And.intro ?_ ?_)) | rfl | refine Fin.mk ?_ | exact True.intro | refine And.intro ?_ ?_)))
  all_goals first | (with_reducible show Goes _ _ _ _; skip) | (clear hR1)
  all_goals first | (with_reducible show (∃ _, unr _ _ _ _ _ _); skip) | (with_reducible show Goes _ _ _ _; skip) | (with_reducible show JoinT _ _ _ _ _ _; skip) | (first | ((try dsimp only [Shp.D, Shp.Ds, Shp.dflt] at *); simp only [vem, veq, ne_eq, cmpI, arI, dvI, shI, SV.den, obLt, elemAt, obApp, partL, obPart, lowD, highD, mxOk, convL_self, zerosB, List.length_replicate, vln] at *; (try dsimp only [Shp.D, Shp.Ds, Shp.dflt, Shp.dflts] at *); done) | ((try dsimp only [Shp.D, Shp.Ds, Shp.dflt] at *); simp only [vem, veq, ne_eq, cmpI, arI, dvI, shI, SV.den, obLt, elemAt, obApp, partL, obPart, lowD, highD, mxOk, convL_self, zerosB, List.length_replicate, vln] at *; (try dsimp only [Shp.D, Shp.Ds, Shp.dflt, Shp.dflts] at *); omega) | ((try dsimp only [Shp.D, Shp.Ds, Shp.dflt] at *); simp only [vem, veq, ne_eq, cmpI, arI, dvI, shI, SV.den, obLt, elemAt, obApp, partL, obPart, lowD, highD, mxOk, convL_self, zerosB, List.length_replicate, vln] at *; (try dsimp only [Shp.D, Shp.Ds, Shp.dflt, Shp.dflts] at *); rw [List.drop_eq_nil_of_le (by omega)] at p3; unfold hasT; rw [← p3]; rfl) | ((try dsimp only [Shp.D, Shp.Ds, Shp.dflt] at *); simp only [vem, veq, ne_eq, cmpI, arI, dvI, shI, SV.den, obLt, elemAt, obApp, partL, obPart, lowD, highD, mxOk, convL_self, zerosB, List.length_replicate, vln] at *; (try dsimp only [Shp.D, Shp.Ds, Shp.dflt, Shp.dflts] at *); unfold hasT; rw [any_yes trD0 (k := (z1 8).toNat) (by omega) (by simp only [eqT, Bool.and_eq_true, beq_iff_eq]; exact ⟨⟨h.1, h.2.1⟩, h.2.2⟩)]; exact decide_eq_true p1))
  with_reducible refine hR1 _ ?_ (fun zq bq tq yq hUq => ?_)
  · refine EndOk.mk (by cbv) (by cbv) (by cbv; repeat' (first | exact True.intro | exact rfl | with_reducible refine And.intro ?_ ?_)) (by cbv; repeat' (first | exact True.intro | exact rfl | with_reducible refine And.intro ?_ ?_)) (by cbv; repeat' (first | exact True.intro | exact rfl | with_reducible refine And.intro ?_ ?_))
  have q8 := hUq.z 8
  cbv at q8
  replace q8 := q8.eq
  simp only [atI, vem, veq, ne_eq, cmpI, arI, dvI, shI, SV.den] at q8
  clear hUq hR1
  try dsimp only [Shp.D, Shp.Ds, Shp.dflt] at *
  try simp only [vem, veq, ne_eq, cmpI, arI, dvI, shI, SV.den, elemAt, convL_self] at *
  try dsimp only [Shp.D, Shp.Ds, Shp.dflt, Shp.dflts] at *
  refine ⟨⟨by omega, by omega, ?_⟩, by omega⟩
  rw [show (zq 8).toNat = (z1 8).toNat + 1 by omega]
  exact any_next trD0 (by omega) p3 (eqT_no h)
theorem hasT_of_idx {l : List TrT} {t : TrT} {y : Int} (h : decide (0 ≤ y) = hasT l t) : decide (y ≥ 0) = hasT l t := h
abbrev hasTFn : Spec := fnFn [.sl trE, trE] [.bool] (fun _ => True) fun x => (hasT x.1 x.2.1, ())
def conC_t : SpecT := lf0 100 (idxSp)
def conC : Cx := ⟨tt, qt, bt, st, conC_t, 0, 1000000000000000, fun _ => none, false, CxE.no⟩
theorem conC_si {E : Env} (h : E.ok) : SpecsOk Try.prog E (CxE.no) conC_t (fun _ => none) := ⟨(lf0_ok (idx_sp h)), noI_ok _ _ _⟩
theorem conC_x {E : Env} (h : E.ok) : CxEOk Try.prog E (CxE.no) := CxE.no_ok _ _
theorem conC_cx (E : Env) (h : E.ok) (h1 : E.lo = 0) (h2 : E.hi = 1000000000000000) : Cx.ok conC Try.prog E := ⟨tt_ok, qt_ok, bt_ok, conC_si h, h, h1, h2, mixed_ok, conC_x h⟩
theorem conC_from (lo hi : Nat) (E : Env) (h : E.ok) (h1 : E.lo = lo) (h2 : E.hi = hi) : Cx.ok (Cx.from conC lo hi) Try.prog E := ⟨tt_ok, qt_ok, bt_ok, conC_si h, h, h1, h2, mixed_ok, conC_x h⟩
theorem con_fn : hasFn Try.prog 66 := ⟨_, Try.func66, by rfl, by rfl⟩
theorem con_sp0 {E : Env} (hE : E.ok) : SpecOk Try.prog E 66 (fnSpec [.sl trE, trE] [.bool] [] (fun _ => True) fun x y => y.1 = hasT x.1 x.2.1) := by
  refine spec_of_vc (C := conC) con_fn Try.func66 (by kernel_rfl) conC_cx (fun x hl hx => ?_) hE
  obtain ⟨l, ⟨ta, tb, tc, u1⟩, u2⟩ := x
  cbv
  (repeat' (first | ((with_reducible refine And.intro (fun h => ?_) (fun h => ?_)) <;> (first | with_reducible exact (tf h (by assumption)).elim | with_reducible exact (tf (by assumption) h).elim | cbv)) | ((with_reducible first | refine Cb.mk ?_ | refine Lz.mk ?_ | refine JoinT.left ?_ | refine AllT.mk (fun x hx => ?_)); cbv) | ((with_reducible refine Ob.mk (fun _ => ?_) ?_); rotate_left 1) | (with_reducible first | refine Mg.mk (Exists.intro ?_ (And.intro ?_ ?_)) | rfl | refine Fin.mk ?_ | exact True.intro | refine And.intro ?_ ?_)))
  all_goals first | (with_reducible show (∃ _, unr _ _ _ _ _ _); skip) | (with_reducible show Goes _ _ _ _; skip) | (with_reducible show JoinT _ _ _ _ _ _; skip) | (first | ((try dsimp only [Shp.D, Shp.Ds, Shp.dflt] at *); simp only [vem, veq, ne_eq, cmpI, arI, dvI, shI, SV.den, obLt, elemAt, obApp, partL, obPart, lowD, highD, mxOk, convL_self, zerosB, List.length_replicate, vln] at *; (try dsimp only [Shp.D, Shp.Ds, Shp.dflt, Shp.dflts] at *); done) | ((try dsimp only [Shp.D, Shp.Ds, Shp.dflt] at *); simp only [vem, veq, ne_eq, cmpI, arI, dvI, shI, SV.den, obLt, elemAt, obApp, partL, obPart, lowD, highD, mxOk, convL_self, zerosB, List.length_replicate, vln] at *; (try dsimp only [Shp.D, Shp.Ds, Shp.dflt, Shp.dflts] at *); exact hx.1))
theorem con_sp {E : Env} (hE : E.ok) : SpecOk Try.prog E 66 hasTFn := fnFn_of (con_sp0 hE) fun (x : Shp.Ds [.sl trE, trE]) (y : Shp.Ds [.bool]) h => by rw [← h]
/-! The set of types. -/
def typeS (s : Int) (t : TrT) : Int := bits .or .u64 s (IntKind.u64.wrap (1 * 2 ^ min t.1.toNat 64))
def typeF (l : List TrT) : Int := l.foldl typeS 0
theorem fold_take {α β : Type} (f : β → α → β) (s : β) (l : List α) (d : α) (k : Nat) (h : k < l.length) : (l.take (k + 1)).foldl f s = f ((l.take k).foldl f s) (l.getD k d) := by
  rw [List.take_add_one, List.getElem?_eq_getElem h, List.foldl_append, List.getD_eq_getElem?_getD, List.getElem?_eq_getElem h]
  rfl
structure okT (l : List TrT) : Prop where
  ok : ∀ t ∈ l, 0 ≤ t.1
theorem okT.at {l : List TrT} (h : okT l) (k : Nat) : 0 ≤ (l.getD k (0, 0, 0, ())).1 := by
  rw [List.getD_eq_getElem?_getD]
  by_cases hk : k < l.length
  · rw [List.getElem?_eq_getElem hk]
    exact h.ok _ (List.getElem_mem hk)
  · rw [List.getElem?_eq_none (by omega)]
    exact Int.le_refl 0
theorem typeS_in (s : Int) (t : TrT) : 0 ≤ typeS s t ∧ typeS s t ≤ 18446744073709551615 := by
  unfold typeS bits
  exact u64_in _
theorem typeF_in (l : List TrT) : 0 ≤ typeF l ∧ typeF l ≤ 18446744073709551615 := by
  unfold typeF
  rcases List.eq_nil_or_concat l with rfl | ⟨l', t, rfl⟩
  · exact ⟨by decide, by decide⟩
  · rw [List.concat_eq_append, List.foldl_append]
    exact typeS_in _ _
theorem tyo_fn : hasFn Try.prog 65 := ⟨_, Try.func65, by rfl, by rfl⟩
theorem tyo_sp0 {E : Env} (hE : E.ok) : SpecOk Try.prog E 65 (fnSpec [prE] [.int .u64] [] (fun x => okT x.1.2.2.2.1) fun x y => y.1 = typeF x.1.2.2.2.1) := by
  refine spec_of_vc (C := noC) tyo_fn Try.func65 (by kernel_rfl) noC_cx (fun x hl hx => ?_) hE
  obtain ⟨⟨nu, po, sp, l, u1⟩, u2⟩ := x
  have hlen : l.length ≤ 140737488355328 := by simp only [Shp.lims, Shp.lim] at hl; exact hl.1.2.2.2.1.1
  cbv
  (repeat' (first | ((with_reducible refine And.intro (fun h => ?_) (fun h => ?_)) <;> (first | with_reducible exact (tf h (by assumption)).elim | with_reducible exact (tf (by assumption) h).elim | cbv)) | ((with_reducible first | refine Cb.mk ?_ | refine Lz.mk ?_ | refine JoinT.left ?_ | refine AllT.mk (fun x hx => ?_)); cbv) | ((with_reducible refine Ob.mk (fun _ => ?_) ?_); rotate_left 1) | (with_reducible first | refine Mg.mk (Exists.intro ?_ (And.intro ?_ ?_)) | rfl | refine Fin.mk ?_ | exact True.intro | refine And.intro ?_ ?_)))
  with_reducible refine loop_hv [] (5 :: rangeN 10 9) [] [] (fun z b t y => 0 ≤ z 9 ∧ z 9 ≤ (l.length : Int) ∧ z 3 = (l.take (z 9).toNat).foldl typeS 0) (fun z b t y => ((l.length : Int) - z 9).toNat) (by cbv) (by cbv) ?_ ?_ (fun z1 b1 t1 u1 y1 R1 hP1 hR1 => ?_)
  · refine EndOk.mk (by cbv) (by cbv) (by cbv; repeat' (first | exact True.intro | exact rfl | with_reducible refine And.intro ?_ ?_)) (by cbv; repeat' (first | exact True.intro | exact rfl | with_reducible refine And.intro ?_ ?_)) (by cbv; repeat' (first | exact True.intro | exact rfl | with_reducible refine And.intro ?_ ?_))
  · intro zq bq tq yq hUq
    have q3 := hUq.z 3
    cbv at q3
    replace q3 := q3.eq
    simp only [atI, vem, veq, ne_eq, cmpI, arI, dvI, shI, SV.den] at q3
    have q9 := hUq.z 9
    cbv at q9
    replace q9 := q9.eq
    simp only [atI, vem, veq, ne_eq, cmpI, arI, dvI, shI, SV.den] at q9
    clear hUq
    try dsimp only [Shp.D, Shp.Ds, Shp.dflt] at *
    try simp only [vem, veq, ne_eq, cmpI, arI, dvI, shI, SV.den, convL_self] at *
    rw [← q9, ← q3]
    exact ⟨by omega, by omega, rfl⟩
  obtain ⟨p1, p2, p3⟩ := hP1
  cbv
  (repeat' (first | ((with_reducible refine And.intro (fun h => ?_) (fun h => ?_)) <;> (first | with_reducible exact (tf h (by assumption)).elim | with_reducible exact (tf (by assumption) h).elim | cbv)) | ((with_reducible first | refine Cb.mk ?_ | refine Lz.mk ?_ | refine JoinT.left ?_ | refine AllT.mk (fun x hx => ?_)); cbv) | ((with_reducible refine Ob.mk (fun _ => ?_) ?_); rotate_left 1) | (with_reducible first | refine Mg.mk (Exists.intro ?_ (And.intro ?_ ?_)) | rfl | refine Fin.mk ?_ | exact True.intro | refine And.intro ?_ ?_)))
  all_goals first | (with_reducible show Goes _ _ _ _; skip) | (clear hR1)
  all_goals first | (with_reducible show (∃ _, unr _ _ _ _ _ _); skip) | (with_reducible show Goes _ _ _ _; skip) | (with_reducible show JoinT _ _ _ _ _ _; skip) | (first | ((try dsimp only [Shp.D, Shp.Ds, Shp.dflt] at *); simp only [vem, veq, ne_eq, cmpI, arI, dvI, shI, SV.den, obLt, elemAt, obApp, partL, obPart, lowD, highD, mxOk, convL_self, zerosB, List.length_replicate, vln] at *; (try dsimp only [Shp.D, Shp.Ds, Shp.dflt, Shp.dflts] at *); done) | ((try dsimp only [Shp.D, Shp.Ds, Shp.dflt] at *); simp only [vem, veq, ne_eq, cmpI, arI, dvI, shI, SV.den, obLt, elemAt, obApp, partL, obPart, lowD, highD, mxOk, convL_self, zerosB, List.length_replicate, vln] at *; (try dsimp only [Shp.D, Shp.Ds, Shp.dflt, Shp.dflts] at *); omega) | ((try dsimp only [Shp.D, Shp.Ds, Shp.dflt] at *); simp only [vem, veq, ne_eq, cmpI, arI, dvI, shI, SV.den, obLt, elemAt, obApp, partL, obPart, lowD, highD, mxOk, convL_self, zerosB, List.length_replicate, vln] at *; (try dsimp only [Shp.D, Shp.Ds, Shp.dflt, Shp.dflts] at *); exact hx.at _) | ((try dsimp only [Shp.D, Shp.Ds, Shp.dflt] at *); simp only [vem, veq, ne_eq, cmpI, arI, dvI, shI, SV.den, obLt, elemAt, obApp, partL, obPart, lowD, highD, mxOk, convL_self, zerosB, List.length_replicate, vln] at *; (try dsimp only [Shp.D, Shp.Ds, Shp.dflt, Shp.dflts] at *); rw [List.take_of_length_le (by omega)] at p3; exact p3))
  with_reducible refine hR1 _ ?_ (fun zq bq tq yq hUq => ?_)
  · refine EndOk.mk (by cbv) (by cbv) (by cbv; repeat' (first | exact True.intro | exact rfl | with_reducible refine And.intro ?_ ?_)) (by cbv; repeat' (first | exact True.intro | exact rfl | with_reducible refine And.intro ?_ ?_)) (by cbv; repeat' (first | exact True.intro | exact rfl | with_reducible refine And.intro ?_ ?_))
  have q3 := hUq.z 3
  cbv at q3
  replace q3 := q3.eq
  simp only [atI, vem, veq, ne_eq, cmpI, arI, dvI, shI, SV.den] at q3
  have q9 := hUq.z 9
  cbv at q9
  replace q9 := q9.eq
  simp only [atI, vem, veq, ne_eq, cmpI, arI, dvI, shI, SV.den] at q9
  clear hUq hR1
  try dsimp only [Shp.D, Shp.Ds, Shp.dflt] at *
  try simp only [vem, veq, ne_eq, cmpI, arI, dvI, shI, SV.den, elemAt, convL_self] at *
  try dsimp only [Shp.D, Shp.Ds, Shp.dflt, Shp.dflts] at *
  refine ⟨⟨by omega, by omega, ?_⟩, by omega⟩
  rw [show (zq 9).toNat = (z1 9).toNat + 1 by omega, fold_take typeS 0 l trD0 _ (by omega), ← p3, ← q3]
  rfl
abbrev tyoFn : Spec := fnFn [prE] [.int .u64] (fun x => okT x.1.2.2.2.1) fun x => (typeF x.1.2.2.2.1, ())
theorem tyo_sp {E : Env} (hE : E.ok) : SpecOk Try.prog E 65 tyoFn := fnFn_of (tyo_sp0 hE) fun (x : Shp.Ds [prE]) (y : Shp.Ds [.int .u64]) h => by rw [← h]
end Go.Proofs.Ytiinlanpinanhaa.V
