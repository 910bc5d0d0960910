/- Contracts: bytes are compared by the document's answer. -/
import Derived.Test.YtkeefgiajogkkaaVd
import Derived.Test.YtkeefgiajogkkaaVty
set_option linter.unusedVariables false
set_option linter.unusedSimpArgs false
namespace Go.Proofs.Ytkeefgiajogkkaa.V
open Go.RowKit
set_option maxHeartbeats 8000000
set_option maxRecDepth 100000
def cmpC_t : SpecT := fun _ => none
def cmpC : Cx := ⟨tt, qt, bt, st, cmpC_t, 0, 1000000000000000, fun _ => none, false, CxE.no, []⟩
theorem cmpC_si {E : Env} (h : E.ok) : SpecsOk Try.prog E (CxE.no) cmpC_t (fun _ => none) := ⟨(fun t f h => by cases h), noI_ok _ _ _⟩
theorem cmpC_x {E : Env} (h : E.ok) : CxEOk Try.prog E (CxE.no) := CxE.no_ok _ _
theorem cmpC_cx (E : Env) (h : E.ok) (h1 : E.lo = 0) (h2 : E.hi = 1000000000000000) : Cx.ok cmpC Try.prog E := ⟨tt_ok, qt_ok, bt_ok, cmpC_si h, h, h1, h2, mixed_ok, cmpC_x h⟩
theorem cmpC_from (lo hi : Nat) (E : Env) (h : E.ok) (h1 : E.lo = lo) (h2 : E.hi = hi) : Cx.ok (Cx.from cmpC lo hi) Try.prog E := ⟨tt_ok, qt_ok, bt_ok, cmpC_si h, h, h1, h2, mixed_ok, cmpC_x h⟩
def cmpL : List UInt8 → List UInt8 → Int
 | [], [] => 0
 | [], _ :: _ => -1
 | _ :: _, [] => 1
 | a :: l, b :: m => if a.toNat < b.toNat then -1 else if b.toNat < a.toNat then 1 else cmpL l m
theorem cmpL_self : ∀ l : List UInt8, cmpL l l = 0
 | [] => rfl
 | a :: l => by simp [cmpL, cmpL_self l]
theorem cmpL_zero : ∀ {l m : List UInt8}, cmpL l m = 0 → l = m
 | [], [], _ => rfl
 | [], _ :: _, h => by simp [cmpL] at h
 | _ :: _, [], h => by simp [cmpL] at h
 | a :: l, b :: m, h => by
   unfold cmpL at h
   split at h
   ·cases h
   ·split at h
    ·cases h
    ·rw [cmpL_zero h, show a = b from UInt8.toNat_inj.1 (by omega)]
theorem cmpL_drop (a b : List UInt8) (k : Nat) (ha : k < a.length) (hb : k < b.length) : cmpL (a.drop k) (b.drop k) = if (a.getD k 0).toNat < (b.getD k 0).toNat then -1 else if (b.getD k 0).toNat < (a.getD k 0).toNat then 1 else cmpL (a.drop (k + 1)) (b.drop (k + 1)) := by
 rw [List.drop_eq_getElem_cons ha, List.drop_eq_getElem_cons hb, cmpL, List.getD_eq_getElem?_getD, List.getD_eq_getElem?_getD, List.getElem?_eq_getElem ha, List.getElem?_eq_getElem hb]
 rfl
theorem cmpL_end (l m : List UInt8) (k : Nat) (h1 : k ≤ l.length) (h2 : k ≤ m.length) (h : l.length ≤ k ∨ m.length ≤ k) : cmpL (l.drop k) (m.drop k) = if l.length < m.length then -1 else if m.length < l.length then 1 else 0 := by
 have e1 : (l.drop k).length = l.length - k := List.length_drop
 have e2 : (m.drop k).length = m.length - k := List.length_drop
 cases hl : l.drop k with
 | nil =>
   rw [hl, List.length_nil] at e1
   cases hm : m.drop k with
   | nil =>
     rw [hm, List.length_nil] at e2
     rw [if_neg (by omega), if_neg (by omega)]; rfl
   | cons b r =>
     rw [hm, List.length_cons] at e2
     rw [if_pos (by omega)]; rfl
 | cons a r =>
   rw [hl, List.length_cons] at e1
   cases hm : m.drop k with
   | nil =>
     rw [hm, List.length_nil] at e2
     rw [if_neg (by omega), if_pos (by omega)]; rfl
   | cons b r =>
     rw [hm, List.length_cons] at e2
     omega
abbrev cmpSp : Spec := fnSpec [.sl .byte, .sl .byte] [.int .i64] [] (fun _ => True) fun x y => y.1 = cmpL x.1 x.2.1
theorem rcmp_fn : hasFn Try.prog 31 := ⟨_, Try.func31, by rfl, by rfl⟩
theorem rcmp_sp {E : Env} (hE : E.ok) : SpecOk Try.prog E 31 cmpSp := by
 refine spec_of_vc (C := cmpC) rcmp_fn Try.func31 (by kernel_rfl) cmpC_cx (fun x hl hx => ?_) hE
 obtain ⟨l, m, u⟩ := x
 simp only [Shp.lims, Shp.lim] at hl
 have ha := hl.1.1
 have hb := hl.2.1.1
 clear hl
 cbv
 (repeat' (first | ((with_reducible apply And.intro <;> intro h) <;> (first | with_reducible exact (tf h (by assumption)).elim | with_reducible exact (tf (by assumption) h).elim | cbv)) | ((with_reducible first | refine Cb.mk ?_ | refine Lz.mk ?_ | refine JoinT.left ?_ | (apply AllT.mk; intro x hx)); cbv) | ((with_reducible refine Ob.mk (fun _ => ?_) ?_); rotate_left 1) | (with_reducible first | refine Mg.mk (Exists.intro ?_ (And.intro ?_ ?_)) | rfl | refine Fin.mk ?_ | exact True.intro | refine And.intro ?_ ?_)))
 with_reducible refine loop_hv [] (rangeN 6 30) [] [] (fun z b t y => 0 ≤ z 5 ∧ z 5 ≤ (l.length : Int) ∧ z 5 ≤ (m.length : Int) ∧ cmpL (l.drop (z 5).toNat) (m.drop (z 5).toNat) = cmpL l m) (fun z b t y => ((l.length : Int) - z 5).toNat) (by cbv) (by cbv) ?_ ?_ (fun z1 b1 t1 u1 y1 R1 hP1 hR1 => ?_)
 ·exact EndOk.au
 ·intro zq bq tq yq hUq
  have q5 := hUq.z 5
  cbv at q5
  replace q5 := q5.eq
  simp only [atI, atB, atT, atY, convL_self, vem, veq, ne_eq, cmpI, arI, dvI, shI, SV.den] at q5
  clear hUq
  try dsimp only [Shp.D, Shp.Ds, Shp.dflt] at *
  try simp only [vem, veq, ne_eq, cmpI, arI, dvI, shI, SV.den, convL_self] at *
  rw [← q5]
  exact ⟨by omega, by omega, by omega, rfl⟩
 obtain ⟨p1, p2, p3, p4⟩ := hP1
 cbv
 (repeat' (first | ((with_reducible apply And.intro <;> intro h) <;> (first | with_reducible exact (tf h (by assumption)).elim | with_reducible exact (tf (by assumption) h).elim | cbv)) | ((with_reducible first | refine Cb.mk ?_ | refine Lz.mk ?_ | refine JoinT.left ?_ | (apply AllT.mk; intro x hx)); cbv) | ((with_reducible refine Ob.mk (fun _ => ?_) ?_); rotate_left 1) | (with_reducible first | refine Mg.mk (Exists.intro ?_ (And.intro ?_ ?_)) | rfl | refine Fin.mk ?_ | exact True.intro | refine And.intro ?_ ?_)))
 all_goals first | (with_reducible show Goes _ _ _ _; skip) | (clear hR1)
 all_goals first | (with_reducible show (∃ _, unr _ _ _ _ _ _); skip) | (with_reducible show UnrI _ _ _ _ _; skip) | (with_reducible show Goes _ _ _ _; skip) | (with_reducible show JoinT _ _ _ _ _ _ _; skip) | (first | ((((try dsimp only [Shp.D, Shp.Ds, Shp.dflt] at *); simp only [vem, veq, ne_eq, cmpI, arI, dvI, shI, SV.den, obLt, elemAt, obApp, partL, obPart, lowD, highD, mxOk, convL_self, zerosB, List.length_replicate, vln] at *; (try dsimp only [Shp.D, Shp.Ds, Shp.dflt, Shp.dflts] at *)) <;> (try simp only [Shp.lims, Shp.lim, IntKind.wrap_u64, IntKind.wrap_u8] at *) <;> omega); done) | skip)
 all_goals first
  | (with_reducible show Goes _ _ _ _; skip)
  | ((try dsimp only [Shp.D, Shp.Ds, Shp.dflt] at *); simp only [vem, veq, ne_eq, cmpI, arI, dvI, shI, SV.den, obLt, elemAt, obApp, partL, obPart, lowD, highD, mxOk, convL_self, zerosB, List.length_replicate, vln] at *; (try dsimp only [Shp.D, Shp.Ds, Shp.dflt, Shp.dflts] at *); have e := cmpL_drop l m (z1 5).toNat (by omega) (by omega); rw [p4] at e; rw [e, if_pos (by omega)]; done)
  | ((try dsimp only [Shp.D, Shp.Ds, Shp.dflt] at *); simp only [vem, veq, ne_eq, cmpI, arI, dvI, shI, SV.den, obLt, elemAt, obApp, partL, obPart, lowD, highD, mxOk, convL_self, zerosB, List.length_replicate, vln] at *; (try dsimp only [Shp.D, Shp.Ds, Shp.dflt, Shp.dflts] at *); have e := cmpL_drop l m (z1 5).toNat (by omega) (by omega); rw [p4] at e; rw [e, if_neg (by omega), if_pos (by omega)]; done)
  | ((try dsimp only [Shp.D, Shp.Ds, Shp.dflt] at *); simp only [vem, veq, ne_eq, cmpI, arI, dvI, shI, SV.den, obLt, elemAt, obApp, partL, obPart, lowD, highD, mxOk, convL_self, zerosB, List.length_replicate, vln] at *; (try dsimp only [Shp.D, Shp.Ds, Shp.dflt, Shp.dflts] at *); rw [← p4, cmpL_end _ _ _ (by omega) (by omega) (by omega)]; (repeat' split) <;> first | rfl | omega)
 with_reducible refine hR1 _ ?_ (fun zq bq tq yq hUq => ?_)
 ·exact EndOk.au
 have q5 := hUq.z 5
 cbv at q5
 replace q5 := q5.eq
 simp only [atI, atB, atT, atY, convL_self, vem, veq, ne_eq, cmpI, arI, dvI, shI, SV.den] at q5
 clear hUq hR1
 try dsimp only [Shp.D, Shp.Ds, Shp.dflt] at *
 try simp only [vem, veq, ne_eq, cmpI, arI, dvI, shI, SV.den, elemAt, convL_self] at *
 try dsimp only [Shp.D, Shp.Ds, Shp.dflt, Shp.dflts] at *
 have e := cmpL_drop l m (z1 5).toNat (by omega) (by omega)
 rw [p4, if_neg (by omega), if_neg (by omega)] at e
 refine ⟨⟨by omega, by omega, by omega, ?_⟩, by omega⟩
 rw [e, show (zq 5).toNat = (z1 5).toNat + 1 by omega]
def eqC_t : SpecT := lf0 31 (cmpSp)
def eqC : Cx := ⟨tt, qt, bt, st, eqC_t, 0, 1000000000000000, fun _ => none, false, CxE.no, []⟩
theorem eqC_si {E : Env} (h : E.ok) : SpecsOk Try.prog E (CxE.no) eqC_t (fun _ => none) := ⟨(lf0_ok (.inl (rcmp_sp h))), noI_ok _ _ _⟩
theorem eqC_x {E : Env} (h : E.ok) : CxEOk Try.prog E (CxE.no) := CxE.no_ok _ _
theorem eqC_cx (E : Env) (h : E.ok) (h1 : E.lo = 0) (h2 : E.hi = 1000000000000000) : Cx.ok eqC Try.prog E := ⟨tt_ok, qt_ok, bt_ok, eqC_si h, h, h1, h2, mixed_ok, eqC_x h⟩
theorem eqC_from (lo hi : Nat) (E : Env) (h : E.ok) (h1 : E.lo = lo) (h2 : E.hi = hi) : Cx.ok (Cx.from eqC lo hi) Try.prog E := ⟨tt_ok, qt_ok, bt_ok, eqC_si h, h, h1, h2, mixed_ok, eqC_x h⟩
abbrev eqSp : Spec := fnSpec [.sl .byte, .sl .byte] [.bool] [] (fun _ => True) fun x y => y.1 = decide (x.1 = x.2.1)
theorem reql_fn : hasFn Try.prog 18 := ⟨_, Try.func18, by rfl, by rfl⟩
theorem reql_sp {E : Env} (hE : E.ok) : SpecOk Try.prog E 18 eqSp := by
 refine spec_of_vc (C := eqC) reql_fn Try.func18 (by kernel_rfl) eqC_cx (fun x hl hx => ?_) hE
 obtain ⟨a, b, u⟩ := x
 cbv
 (repeat' (first | ((with_reducible apply And.intro <;> intro h) <;> (first | with_reducible exact (tf h (by assumption)).elim | with_reducible exact (tf (by assumption) h).elim | cbv)) | ((with_reducible first | refine Cb.mk ?_ | refine Lz.mk ?_ | refine JoinT.left ?_ | (apply AllT.mk; intro x hx)); cbv) | ((with_reducible refine Ob.mk (fun _ => ?_) ?_); rotate_left 1) | (with_reducible first | refine Mg.mk (Exists.intro ?_ (And.intro ?_ ?_)) | rfl | refine Fin.mk ?_ | exact True.intro | refine And.intro ?_ ?_)))
 all_goals (try dsimp only [Shp.D, Shp.Ds, Shp.dflt] at *); simp only [vem, veq, ne_eq, cmpI, arI, dvI, shI, SV.den, obLt, elemAt, obApp, partL, obPart, lowD, highD, mxOk, convL_self, zerosB, List.length_replicate, vln] at *; (try dsimp only [Shp.D, Shp.Ds, Shp.dflt, Shp.dflts] at *)
 all_goals (rw [hx.1, Bool.eq_iff_iff, beq_iff_eq, decide_eq_true_iff]; exact ⟨cmpL_zero, fun h => by rw [h]; exact cmpL_self _⟩)
end Go.Proofs.Ytkeefgiajogkkaa.V
