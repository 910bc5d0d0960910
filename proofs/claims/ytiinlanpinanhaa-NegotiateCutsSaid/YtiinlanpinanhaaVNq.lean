/- Contracts: the ends of a box, the points beside them, the ends of its ranges. -/
import Derived.Test.YtiinlanpinanhaaVBx
import Derived.Test.YtiinlanpinanhaaVG
import Derived.Test.YtiinlanpinanhaaVNp
set_option linter.unusedVariables false
set_option linter.unusedSimpArgs false
namespace Go.Proofs.Ytiinlanpinanhaa.V
open Go.RowKit
set_option maxHeartbeats 8000000
set_option maxRecDepth 100000
/-- Ends of a range of a box. -/
structure EndG (k : Int) (l : List AdrT) : Prop where
  l2 : 2 ≤ l.length
  l4 : l.length ≤ 4
  ok : ∀ q ∈ l, (toAdr q).ok
  pr : k = 2 → ∀ q ∈ l, 1 ≤ q.2.2.1 ∧ q.2.2.1 ≤ 256
def nbC_t : SpecT := fun _ => none
def nbC : Cx := ⟨tt, qt, bt, st, nbC_t, 0, 1000000000000000, fun _ => none, false, CxE.no⟩
theorem nbC_si {E : Env} (h : E.ok) : SpecsOk Try.prog E (CxE.no) nbC_t (fun _ => none) := ⟨(fun t f h => by cases h), noI_ok _ _ _⟩
theorem nbC_x {E : Env} (h : E.ok) : CxEOk Try.prog E (CxE.no) := CxE.no_ok _ _
theorem nbC_cx (E : Env) (h : E.ok) (h1 : E.lo = 0) (h2 : E.hi = 1000000000000000) : Cx.ok nbC Try.prog E := ⟨tt_ok, qt_ok, bt_ok, nbC_si h, h, h1, h2, mixed_ok, nbC_x h⟩
theorem nbC_from (lo hi : Nat) (E : Env) (h : E.ok) (h1 : E.lo = lo) (h2 : E.hi = hi) : Cx.ok (Cx.from nbC lo hi) Try.prog E := ⟨tt_ok, qt_ok, bt_ok, nbC_si h, h, h1, h2, mixed_ok, nbC_x h⟩
def lwC_t : SpecT := fun _ => none
def lwC_i : SpecT := lf0 109 (inlSpec nbC Try.f109)
def lwC : Cx := ⟨tt, qt, bt, st, lwC_t, 0, 1000000000000000, lwC_i, true, CxE.no⟩
theorem lwC_si {E : Env} (h : E.ok) : SpecsOk Try.prog E (CxE.no) lwC_t (lwC_i) := ⟨(fun t f h => by cases h), (lf0_ok (inl_ok h nbC_from Try.func109 ⟨by rfl, by rfl⟩ (by kernel_rfl)))⟩
theorem lwC_x {E : Env} (h : E.ok) : CxEOk Try.prog E (CxE.no) := CxE.no_ok _ _
theorem lwC_cx (E : Env) (h : E.ok) (h1 : E.lo = 0) (h2 : E.hi = 1000000000000000) : Cx.ok lwC Try.prog E := ⟨tt_ok, qt_ok, bt_ok, lwC_si h, h, h1, h2, mixed_ok, lwC_x h⟩
theorem lwC_from (lo hi : Nat) (E : Env) (h : E.ok) (h1 : E.lo = lo) (h2 : E.hi = hi) : Cx.ok (Cx.from lwC lo hi) Try.prog E := ⟨tt_ok, qt_ok, bt_ok, lwC_si h, h, h1, h2, mixed_ok, lwC_x h⟩
/-- An end of a range of a box. -/
structure PtG (k : Int) (q : AdrT) : Prop where
  ok : (toAdr q).ok
  fam : k = 0 → q.1 = 4 ∨ q.1 = 6
  fam' : k = 1 → q.1 = 4 ∨ q.1 = 6
  pr : k = 2 → q.1 = 0 ∧ q.2.1 = 0 ∧ 1 ≤ q.2.2.1 ∧ q.2.2.1 ≤ 256
theorem pt_num {k v : Int} (h0 : 0 ≤ v) (h1 : v ≤ 18446744073709551615) (hk : ¬ k = 0) (hk1 : ¬ k = 1) (h2 : k = 2 → 1 ≤ v ∧ v ≤ 256) : PtG k (0, 0, v, ()) :=
  ⟨⟨(by decide : (-9223372036854775808 : Int) ≤ 0), (by decide : (0 : Int) ≤ 9223372036854775807), Int.le_refl 0, (by decide : (0 : Int) ≤ 18446744073709551615), h0, h1⟩, fun h => absurd h hk, fun h => absurd h hk1, fun h => ⟨rfl, rfl, (h2 h).1, (h2 h).2⟩⟩
theorem pt_adr {k f : Int} {q : AdrT} (hf : f = 4 ∨ f = 6) (h : AdrF f (toAdr q)) (hk : ¬ k = 2) : PtG k q :=
  ⟨h.ok, fun _ => by rw [show q.1 = f from h.fam]; exact hf, fun _ => by rw [show q.1 = f from h.fam]; exact hf, fun h => absurd h hk⟩
abbrev ptSp : Spec := fnSpec [boxE, .int .i64] [adrE] [] (fun x => BoxG x.1 ∧ 0 ≤ x.2.1 ∧ x.2.1 ≤ 4) fun x y => PtG x.2.1 y.1
theorem low_fn : hasFn Try.prog 107 := ⟨_, Try.func107, by rfl, by rfl⟩
theorem low_sp {E : Env} (hE : E.ok) : SpecOk Try.prog E 107 ptSp := by
  refine spec_of_vc (C := lwC) low_fn Try.func107 (by kernel_rfl) lwC_cx (fun x hl hx => ?_) hE
  obtain ⟨⟨⟨f1, h1, l1, u1⟩, ⟨f2, h2, l2, u2⟩, ⟨f3, h3, l3, u3⟩, ⟨f4, h4, l4, u4⟩, plo, phi, ⟨a1, a2, u5⟩, ⟨b1, b2, u6⟩, u7⟩, k, u8⟩ := x
  obtain ⟨hb, k0, k4⟩ := hx
  obtain ⟨f, hf, s1, s2⟩ := hb.f
  have g1 : 0 ≤ plo ∧ plo ≤ 255 := ⟨hb.lo, hb.lo'⟩
  have g2 : -1 ≤ a1 ∧ a1 ≤ a2 ∧ a2 ≤ 65535 := ⟨hb.lp.lo, hb.lp.le, hb.lp.hi⟩
  have g3 : -1 ≤ b1 ∧ b1 ≤ b2 ∧ b2 ≤ 65535 := ⟨hb.rp.lo, hb.rp.le, hb.rp.hi⟩
  have s1l := s1.lo
  have s2l := s2.lo
  clear hb s1 s2
  cbv
  (repeat' (first | ((with_reducible refine And.intro (fun h => ?_) (fun h => ?_)) <;> (first | with_reducible exact (tf h (by assumption)).elim | with_reducible exact (tf (by assumption) h).elim | cbv)) | ((with_reducible first | refine Cb.mk ?_ | refine Lz.mk ?_ | refine JoinT.left ?_ | refine AllT.mk (fun x hx => ?_)); cbv) | ((with_reducible refine Ob.mk (fun _ => ?_) ?_); rotate_left 1) | (with_reducible first | refine Mg.mk (Exists.intro ?_ (And.intro ?_ ?_)) | rfl | refine Fin.mk ?_ | exact True.intro | refine And.intro ?_ ?_)))
  all_goals first | (with_reducible show (∃ _, unr _ _ _ _ _ _); skip) | (with_reducible show Goes _ _ _ _; skip) | (with_reducible show JoinT _ _ _ _ _ _; skip) | (first | ((try dsimp only [Shp.D, Shp.Ds, Shp.dflt] at *); simp only [vem, veq, ne_eq, cmpI, arI, dvI, shI, SV.den, obLt, elemAt, obApp, partL, obPart, lowD, highD, mxOk, convL_self, zerosB, List.length_replicate, vln] at *; (try dsimp only [Shp.D, Shp.Ds, Shp.dflt, Shp.dflts] at *); done) | ((try dsimp only [Shp.D, Shp.Ds, Shp.dflt] at *); simp only [vem, veq, ne_eq, cmpI, arI, dvI, shI, SV.den, obLt, elemAt, obApp, partL, obPart, lowD, highD, mxOk, convL_self, zerosB, List.length_replicate, vln] at *; (try dsimp only [Shp.D, Shp.Ds, Shp.dflt, Shp.dflts] at *); omega) | ((try dsimp only [Shp.D, Shp.Ds, Shp.dflt] at *); simp only [vem, veq, ne_eq, cmpI, arI, dvI, shI, SV.den, obLt, elemAt, obApp, partL, obPart, lowD, highD, mxOk, convL_self, zerosB, List.length_replicate, vln] at *; (try dsimp only [Shp.D, Shp.Ds, Shp.dflt, Shp.dflts] at *); exact pt_adr hf s1l (by omega)) | ((try dsimp only [Shp.D, Shp.Ds, Shp.dflt] at *); simp only [vem, veq, ne_eq, cmpI, arI, dvI, shI, SV.den, obLt, elemAt, obApp, partL, obPart, lowD, highD, mxOk, convL_self, zerosB, List.length_replicate, vln] at *; (try dsimp only [Shp.D, Shp.Ds, Shp.dflt, Shp.dflts] at *); exact pt_adr hf s2l (by omega)) | ((try dsimp only [Shp.D, Shp.Ds, Shp.dflt] at *); simp only [vem, veq, ne_eq, cmpI, arI, dvI, shI, SV.den, obLt, elemAt, obApp, partL, obPart, lowD, highD, mxOk, convL_self, zerosB, List.length_replicate, vln] at *; (try dsimp only [Shp.D, Shp.Ds, Shp.dflt, Shp.dflts] at *); rw [IntKind.wrap_u64]; exact pt_num (by omega) (by omega) (by omega) (by omega) (fun h => by omega)) | (try ((try dsimp only [Shp.D, Shp.Ds, Shp.dflt] at *); simp only [vem, veq, ne_eq, cmpI, arI, dvI, shI, SV.den, obLt, elemAt, obApp, partL, obPart, lowD, highD, mxOk, convL_self, zerosB, List.length_replicate, vln] at *; (try dsimp only [Shp.D, Shp.Ds, Shp.dflt, Shp.dflts] at *))))
theorem hig_fn : hasFn Try.prog 108 := ⟨_, Try.func108, by rfl, by rfl⟩
theorem hig_sp {E : Env} (hE : E.ok) : SpecOk Try.prog E 108 ptSp := by
  refine spec_of_vc (C := lwC) hig_fn Try.func108 (by kernel_rfl) lwC_cx (fun x hl hx => ?_) hE
  obtain ⟨⟨⟨f1, h1, l1, u1⟩, ⟨f2, h2, l2, u2⟩, ⟨f3, h3, l3, u3⟩, ⟨f4, h4, l4, u4⟩, plo, phi, ⟨a1, a2, u5⟩, ⟨b1, b2, u6⟩, u7⟩, k, u8⟩ := x
  obtain ⟨hb, k0, k4⟩ := hx
  obtain ⟨f, hf, s1, s2⟩ := hb.f
  have g1 : 0 ≤ phi ∧ phi ≤ 255 := ⟨hb.hi, hb.hi'⟩
  have g2 : -1 ≤ a1 ∧ a1 ≤ a2 ∧ a2 ≤ 65535 := ⟨hb.lp.lo, hb.lp.le, hb.lp.hi⟩
  have g3 : -1 ≤ b1 ∧ b1 ≤ b2 ∧ b2 ≤ 65535 := ⟨hb.rp.lo, hb.rp.le, hb.rp.hi⟩
  have s1l := s1.hi
  have s2l := s2.hi
  clear hb s1 s2
  cbv
  (repeat' (first | ((with_reducible refine And.intro (fun h => ?_) (fun h => ?_)) <;> (first | with_reducible exact (tf h (by assumption)).elim | with_reducible exact (tf (by assumption) h).elim | cbv)) | ((with_reducible first | refine Cb.mk ?_ | refine Lz.mk ?_ | refine JoinT.left ?_ | refine AllT.mk (fun x hx => ?_)); cbv) | ((with_reducible refine Ob.mk (fun _ => ?_) ?_); rotate_left 1) | (with_reducible first | refine Mg.mk (Exists.intro ?_ (And.intro ?_ ?_)) | rfl | refine Fin.mk ?_ | exact True.intro | refine And.intro ?_ ?_)))
  all_goals first | (with_reducible show (∃ _, unr _ _ _ _ _ _); skip) | (with_reducible show Goes _ _ _ _; skip) | (with_reducible show JoinT _ _ _ _ _ _; skip) | (first | ((try dsimp only [Shp.D, Shp.Ds, Shp.dflt] at *); simp only [vem, veq, ne_eq, cmpI, arI, dvI, shI, SV.den, obLt, elemAt, obApp, partL, obPart, lowD, highD, mxOk, convL_self, zerosB, List.length_replicate, vln] at *; (try dsimp only [Shp.D, Shp.Ds, Shp.dflt, Shp.dflts] at *); done) | ((try dsimp only [Shp.D, Shp.Ds, Shp.dflt] at *); simp only [vem, veq, ne_eq, cmpI, arI, dvI, shI, SV.den, obLt, elemAt, obApp, partL, obPart, lowD, highD, mxOk, convL_self, zerosB, List.length_replicate, vln] at *; (try dsimp only [Shp.D, Shp.Ds, Shp.dflt, Shp.dflts] at *); omega) | ((try dsimp only [Shp.D, Shp.Ds, Shp.dflt] at *); simp only [vem, veq, ne_eq, cmpI, arI, dvI, shI, SV.den, obLt, elemAt, obApp, partL, obPart, lowD, highD, mxOk, convL_self, zerosB, List.length_replicate, vln] at *; (try dsimp only [Shp.D, Shp.Ds, Shp.dflt, Shp.dflts] at *); exact pt_adr hf s1l (by omega)) | ((try dsimp only [Shp.D, Shp.Ds, Shp.dflt] at *); simp only [vem, veq, ne_eq, cmpI, arI, dvI, shI, SV.den, obLt, elemAt, obApp, partL, obPart, lowD, highD, mxOk, convL_self, zerosB, List.length_replicate, vln] at *; (try dsimp only [Shp.D, Shp.Ds, Shp.dflt, Shp.dflts] at *); exact pt_adr hf s2l (by omega)) | ((try dsimp only [Shp.D, Shp.Ds, Shp.dflt] at *); simp only [vem, veq, ne_eq, cmpI, arI, dvI, shI, SV.den, obLt, elemAt, obApp, partL, obPart, lowD, highD, mxOk, convL_self, zerosB, List.length_replicate, vln] at *; (try dsimp only [Shp.D, Shp.Ds, Shp.dflt, Shp.dflts] at *); rw [IntKind.wrap_u64]; exact pt_num (by omega) (by omega) (by omega) (by omega) (fun h => by omega)) | (try ((try dsimp only [Shp.D, Shp.Ds, Shp.dflt] at *); simp only [vem, veq, ne_eq, cmpI, arI, dvI, shI, SV.den, obLt, elemAt, obApp, partL, obPart, lowD, highD, mxOk, convL_self, zerosB, List.length_replicate, vln] at *; (try dsimp only [Shp.D, Shp.Ds, Shp.dflt, Shp.dflts] at *))))
structure BackG (x y : AdrT) : Prop where
  ok : (toAdr y).ok
  eq : 1 ≤ x.2.2.1 → y = (x.1, x.2.1, x.2.2.1 - 1, ())
structure OnG (x y : AdrT) : Prop where
  ok : (toAdr y).ok
  eq : x.2.2.1 ≤ 256 → y = (x.1, x.2.1, x.2.2.1 + 1, ())
theorem u64_r (v : Int) : 0 ≤ IntKind.u64.wrap v ∧ IntKind.u64.wrap v ≤ 18446744073709551615 := by rw [IntKind.wrap_u64]; omega
theorem adr_ok {f h l : Int} {u : Unit} (o1 : -9223372036854775808 ≤ f) (o2 : f ≤ 9223372036854775807) (hh : 0 ≤ h ∧ h ≤ 18446744073709551615) (hl : 0 ≤ l ∧ l ≤ 18446744073709551615) : (toAdr (f, h, l, u)).ok := ⟨o1, o2, hh.1, hh.2, hl.1, hl.2⟩
theorem back_0 {f h l : Int} {u : Unit} (o1 : -9223372036854775808 ≤ f) (o2 : f ≤ 9223372036854775807) (h0 : l = 0) : BackG (f, h, l, u) (f, IntKind.u64.wrap (h - 1), IntKind.u64.wrap (l - 1), PUnit.unit) :=
  ⟨adr_ok o1 o2 (u64_r _) (u64_r _), fun h1 => by have h1 : 1 ≤ l := h1; omega⟩
theorem back_1 {f h l : Int} {u : Unit} (o1 : -9223372036854775808 ≤ f) (o2 : f ≤ 9223372036854775807) (o3 : 0 ≤ h) (o4 : h ≤ 18446744073709551615) (o6 : l ≤ 18446744073709551615) : BackG (f, h, l, u) (f, h, IntKind.u64.wrap (l - 1), PUnit.unit) :=
  ⟨adr_ok o1 o2 ⟨o3, o4⟩ (u64_r _), fun h1 => by
    have h1 : 1 ≤ l := h1
    rw [IntKind.wrap_u64, show (l - 1) % 18446744073709551616 = l - 1 by omega]⟩
theorem on_0 {f h l : Int} {u : Unit} (o1 : -9223372036854775808 ≤ f) (o2 : f ≤ 9223372036854775807) (o5 : 0 ≤ l) (h0 : IntKind.u64.wrap (l + 1) = 0) : OnG (f, h, l, u) (f, IntKind.u64.wrap (h + 1), IntKind.u64.wrap (l + 1), PUnit.unit) :=
  ⟨adr_ok o1 o2 (u64_r _) (u64_r _), fun h1 => by
    have h1 : l ≤ 256 := h1
    rw [IntKind.wrap_u64] at h0; omega⟩
theorem on_1 {f h l : Int} {u : Unit} (o1 : -9223372036854775808 ≤ f) (o2 : f ≤ 9223372036854775807) (o3 : 0 ≤ h) (o4 : h ≤ 18446744073709551615) (o5 : 0 ≤ l) : OnG (f, h, l, u) (f, h, IntKind.u64.wrap (l + 1), PUnit.unit) :=
  ⟨adr_ok o1 o2 ⟨o3, o4⟩ (u64_r _), fun h1 => by
    have h1 : l ≤ 256 := h1
    rw [IntKind.wrap_u64, show (l + 1) % 18446744073709551616 = l + 1 by omega]⟩
abbrev backSp : Spec := fnSpec [adrE] [adrE] [] (fun x => (toAdr x.1).ok) fun x y => BackG x.1 y.1
abbrev onSp : Spec := fnSpec [adrE] [adrE] [] (fun x => (toAdr x.1).ok) fun x y => OnG x.1 y.1
theorem back_fn : hasFn Try.prog 110 := ⟨_, Try.func110, by rfl, by rfl⟩
theorem back_sp {E : Env} (hE : E.ok) : SpecOk Try.prog E 110 backSp := by
  refine spec_of_vc (C := nbC) back_fn Try.func110 (by kernel_rfl) nbC_cx (fun x hl hx => ?_) hE
  obtain ⟨⟨f, h, l, u⟩, u2⟩ := x
  obtain ⟨o1, o2, o3, o4, o5, o6⟩ := hx
  cbv
  (repeat' (first | ((with_reducible refine And.intro (fun h => ?_) (fun h => ?_)) <;> (first | with_reducible exact (tf h (by assumption)).elim | with_reducible exact (tf (by assumption) h).elim | cbv)) | ((with_reducible first | refine Cb.mk ?_ | refine Lz.mk ?_ | refine JoinT.left ?_ | refine AllT.mk (fun x hx => ?_)); cbv) | ((with_reducible refine Ob.mk (fun _ => ?_) ?_); rotate_left 1) | (with_reducible first | refine Mg.mk (Exists.intro ?_ (And.intro ?_ ?_)) | rfl | refine Fin.mk ?_ | exact True.intro | refine And.intro ?_ ?_)))
  all_goals first | (with_reducible show (∃ _, unr _ _ _ _ _ _); skip) | (with_reducible show Goes _ _ _ _; skip) | (with_reducible show JoinT _ _ _ _ _ _; skip) | (first | ((try dsimp only [Shp.D, Shp.Ds, Shp.dflt] at *); simp only [vem, veq, ne_eq, cmpI, arI, dvI, shI, SV.den, obLt, elemAt, obApp, partL, obPart, lowD, highD, mxOk, convL_self, zerosB, List.length_replicate, vln] at *; (try dsimp only [Shp.D, Shp.Ds, Shp.dflt, Shp.dflts] at *); done) | ((try dsimp only [Shp.D, Shp.Ds, Shp.dflt] at *); simp only [vem, veq, ne_eq, cmpI, arI, dvI, shI, SV.den, obLt, elemAt, obApp, partL, obPart, lowD, highD, mxOk, convL_self, zerosB, List.length_replicate, vln] at *; (try dsimp only [Shp.D, Shp.Ds, Shp.dflt, Shp.dflts] at *); omega) | ((try dsimp only [Shp.D, Shp.Ds, Shp.dflt] at *); simp only [vem, veq, ne_eq, cmpI, arI, dvI, shI, SV.den, obLt, elemAt, obApp, partL, obPart, lowD, highD, mxOk, convL_self, zerosB, List.length_replicate, vln] at *; (try dsimp only [Shp.D, Shp.Ds, Shp.dflt, Shp.dflts] at *); exact back_0 o1 o2 (by assumption)) | ((try dsimp only [Shp.D, Shp.Ds, Shp.dflt] at *); simp only [vem, veq, ne_eq, cmpI, arI, dvI, shI, SV.den, obLt, elemAt, obApp, partL, obPart, lowD, highD, mxOk, convL_self, zerosB, List.length_replicate, vln] at *; (try dsimp only [Shp.D, Shp.Ds, Shp.dflt, Shp.dflts] at *); exact back_1 o1 o2 o3 o4 o6) | (try ((try dsimp only [Shp.D, Shp.Ds, Shp.dflt] at *); simp only [vem, veq, ne_eq, cmpI, arI, dvI, shI, SV.den, obLt, elemAt, obApp, partL, obPart, lowD, highD, mxOk, convL_self, zerosB, List.length_replicate, vln] at *; (try dsimp only [Shp.D, Shp.Ds, Shp.dflt, Shp.dflts] at *))))
theorem on_fn : hasFn Try.prog 111 := ⟨_, Try.func111, by rfl, by rfl⟩
theorem on_sp {E : Env} (hE : E.ok) : SpecOk Try.prog E 111 onSp := by
  refine spec_of_vc (C := nbC) on_fn Try.func111 (by kernel_rfl) nbC_cx (fun x hl hx => ?_) hE
  obtain ⟨⟨f, h, l, u⟩, u2⟩ := x
  obtain ⟨o1, o2, o3, o4, o5, o6⟩ := hx
  cbv
  (repeat' (first | ((with_reducible refine And.intro (fun h => ?_) (fun h => ?_)) <;> (first | with_reducible exact (tf h (by assumption)).elim | with_reducible exact (tf (by assumption) h).elim | cbv)) | ((with_reducible first | refine Cb.mk ?_ | refine Lz.mk ?_ | refine JoinT.left ?_ | refine AllT.mk (fun x hx => ?_)); cbv) | ((with_reducible refine Ob.mk (fun _ => ?_) ?_); rotate_left 1) | (with_reducible first | refine Mg.mk (Exists.intro ?_ (And.intro ?_ ?_)) | rfl | refine Fin.mk ?_ | exact True.intro | refine And.intro ?_ ?_)))
  all_goals first | (with_reducible show (∃ _, unr _ _ _ _ _ _); skip) | (with_reducible show Goes _ _ _ _; skip) | (with_reducible show JoinT _ _ _ _ _ _; skip) | (first | ((try dsimp only [Shp.D, Shp.Ds, Shp.dflt] at *); simp only [vem, veq, ne_eq, cmpI, arI, dvI, shI, SV.den, obLt, elemAt, obApp, partL, obPart, lowD, highD, mxOk, convL_self, zerosB, List.length_replicate, vln] at *; (try dsimp only [Shp.D, Shp.Ds, Shp.dflt, Shp.dflts] at *); done) | ((try dsimp only [Shp.D, Shp.Ds, Shp.dflt] at *); simp only [vem, veq, ne_eq, cmpI, arI, dvI, shI, SV.den, obLt, elemAt, obApp, partL, obPart, lowD, highD, mxOk, convL_self, zerosB, List.length_replicate, vln] at *; (try dsimp only [Shp.D, Shp.Ds, Shp.dflt, Shp.dflts] at *); omega) | ((try dsimp only [Shp.D, Shp.Ds, Shp.dflt] at *); simp only [vem, veq, ne_eq, cmpI, arI, dvI, shI, SV.den, obLt, elemAt, obApp, partL, obPart, lowD, highD, mxOk, convL_self, zerosB, List.length_replicate, vln] at *; (try dsimp only [Shp.D, Shp.Ds, Shp.dflt, Shp.dflts] at *); exact on_0 o1 o2 o5 (by assumption)) | ((try dsimp only [Shp.D, Shp.Ds, Shp.dflt] at *); simp only [vem, veq, ne_eq, cmpI, arI, dvI, shI, SV.den, obLt, elemAt, obApp, partL, obPart, lowD, highD, mxOk, convL_self, zerosB, List.length_replicate, vln] at *; (try dsimp only [Shp.D, Shp.Ds, Shp.dflt, Shp.dflts] at *); exact on_1 o1 o2 o3 o4 o5) | (try ((try dsimp only [Shp.D, Shp.Ds, Shp.dflt] at *); simp only [vem, veq, ne_eq, cmpI, arI, dvI, shI, SV.den, obLt, elemAt, obApp, partL, obPart, lowD, highD, mxOk, convL_self, zerosB, List.length_replicate, vln] at *; (try dsimp only [Shp.D, Shp.Ds, Shp.dflt, Shp.dflts] at *))))
abbrev nmbSp : Spec := fnFn [.int .i64] [adrE] (fun x => -1 ≤ x.1 ∧ x.1 ≤ 65535) fun x => ((0, 0, x.1 + 1, ()), ())
theorem nmb_fn : hasFn Try.prog 109 := ⟨_, Try.func109, by rfl, by rfl⟩
theorem nmb_sp0 {E : Env} (hE : E.ok) : SpecOk Try.prog E 109 (fnSpec [.int .i64] [adrE] [] (fun x => -1 ≤ x.1 ∧ x.1 ≤ 65535) fun x y => y.1 = (0, 0, x.1 + 1, ())) := by
  refine spec_of_vc (C := nbC) nmb_fn Try.func109 (by kernel_rfl) nbC_cx (fun x hl hx => ?_) hE
  obtain ⟨k, u⟩ := x
  obtain ⟨k0, k1⟩ := hx
  have k0 : -1 ≤ k := k0
  have k1 : k ≤ 65535 := k1
  cbv
  (repeat' (first | ((with_reducible refine And.intro (fun h => ?_) (fun h => ?_)) <;> (first | with_reducible exact (tf h (by assumption)).elim | with_reducible exact (tf (by assumption) h).elim | cbv)) | ((with_reducible show JoinT (fun s K => vc _ (Code.region _ _ true) s K) _ _ _ _ _); (with_reducible apply JoinT.mg2); (focus (cbv; (repeat' (first | ((with_reducible refine And.intro (fun h => ?_) (fun h => ?_)) <;> (first | with_reducible exact (tf h (by assumption)).elim | with_reducible exact (tf (by assumption) h).elim | cbv)) | ((with_reducible first | refine Cb.mk ?_ | refine Lz.mk ?_ | refine JoinT.left ?_ | refine AllT.mk (fun x hx => ?_)); cbv) | ((with_reducible refine Ob.mk (fun _ => ?_) ?_); rotate_left 1) | (with_reducible first | refine Mg.mk (Exists.intro ?_ (And.intro ?_ ?_)) | rfl | refine Fin.mk ?_ | exact True.intro | refine And.intro ?_ ?_))); (all_goals (try (have du : Unit := (); have dv : Unit := (); first | exact Goes.self (Ex2.mk ⟨dv, du, trivial, trivial, rfl⟩) | exact Goes.self (Ex2.mk ⟨x, du, hx, trivial, rfl⟩) | (rename_i xa hxa; exact Goes.self (Ex2.mk ⟨xa, x, hxa, hx, rfl⟩))))); (all_goals (fail_if_success (with_reducible first | show Goes _ _ _ _ | show (∃ _, unr _ _ _ _ _ _))))))) | ((with_reducible first | refine Cb.mk ?_ | refine Lz.mk ?_ | refine JoinT.left ?_ | refine AllT.mk (fun x hx => ?_)); cbv) | ((with_reducible refine Ob.mk (fun _ => ?_) ?_); rotate_left 1) | (with_reducible first | refine Mg.mk (Exists.intro ?_ (And.intro ?_ ?_)) | rfl | refine Fin.mk ?_ | exact True.intro | refine And.intro ?_ ?_)))
  all_goals first | (with_reducible show (∃ _, unr _ _ _ _ _ _); skip) | (with_reducible show Goes _ _ _ _; skip) | (with_reducible show JoinT _ _ _ _ _ _; skip) | (first | ((try dsimp only [Shp.D, Shp.Ds, Shp.dflt] at *); simp only [vem, veq, ne_eq, cmpI, arI, dvI, shI, SV.den, obLt, elemAt, obApp, partL, obPart, lowD, highD, mxOk, convL_self, zerosB, List.length_replicate, vln] at *; (try dsimp only [Shp.D, Shp.Ds, Shp.dflt, Shp.dflts] at *); done) | ((try dsimp only [Shp.D, Shp.Ds, Shp.dflt] at *); simp only [vem, veq, ne_eq, cmpI, arI, dvI, shI, SV.den, obLt, elemAt, obApp, partL, obPart, lowD, highD, mxOk, convL_self, zerosB, List.length_replicate, vln] at *; (try dsimp only [Shp.D, Shp.Ds, Shp.dflt, Shp.dflts] at *); rw [IntKind.wrap_u64, show ((k + 1 + 9223372036854775808) % 18446744073709551616 - 9223372036854775808) % 18446744073709551616 = k + 1 by omega]; done) | (try ((try dsimp only [Shp.D, Shp.Ds, Shp.dflt] at *); simp only [vem, veq, ne_eq, cmpI, arI, dvI, shI, SV.den, obLt, elemAt, obApp, partL, obPart, lowD, highD, mxOk, convL_self, zerosB, List.length_replicate, vln] at *; (try dsimp only [Shp.D, Shp.Ds, Shp.dflt, Shp.dflts] at *))))
theorem nmb_sp {E : Env} (hE : E.ok) : SpecOk Try.prog E 109 nmbSp := fnFn_of (nmb_sp0 hE) fun (x : Shp.Ds [.int .i64]) (y : Shp.Ds [adrE]) h => by rw [← h]
def endC_t : SpecT := nd0 109 (nd0 107 (lf0 95 (fnSpec [.int .i64] [adrE, adrE] [] famPre spanPost)) (nd0 108 (lf0 107 (ptSp)) (lf0 108 (ptSp)))) (nd0 110 (lf0 109 (nmbSp)) (nd0 111 (lf0 110 (backSp)) (lf0 111 (onSp))))
def endC : Cx := ⟨tt, qt, bt, st, endC_t, 0, 1000000000000000, fun _ => none, false, CxE.no⟩
theorem endC_si {E : Env} (h : E.ok) : SpecsOk Try.prog E (CxE.no) endC_t (fun _ => none) := ⟨(nd0_ok (nd0_ok (lf0_ok (rall_sp h)) (nd0_ok (lf0_ok (low_sp h)) (lf0_ok (hig_sp h)))) (nd0_ok (lf0_ok (nmb_sp h)) (nd0_ok (lf0_ok (back_sp h)) (lf0_ok (on_sp h))))), noI_ok _ _ _⟩
theorem endC_x {E : Env} (h : E.ok) : CxEOk Try.prog E (CxE.no) := CxE.no_ok _ _
theorem endC_cx (E : Env) (h : E.ok) (h1 : E.lo = 0) (h2 : E.hi = 1000000000000000) : Cx.ok endC Try.prog E := ⟨tt_ok, qt_ok, bt_ok, endC_si h, h, h1, h2, mixed_ok, endC_x h⟩
theorem endC_from (lo hi : Nat) (E : Env) (h : E.ok) (h1 : E.lo = lo) (h2 : E.hi = hi) : Cx.ok (Cx.from endC lo hi) Try.prog E := ⟨tt_ok, qt_ok, bt_ok, endC_si h, h, h1, h2, mixed_ok, endC_x h⟩
theorem end_2 {k : Int} {a b : AdrT} {P Q : Prop} (h1 : PtG k a ∧ P) (h2 : PtG k b ∧ Q) : EndG k [a, b] := by
  refine ⟨by simp, by simp, fun q hq => ?_, fun hk q hq => ?_⟩
  · rcases List.mem_cons.1 hq with rfl | hq
    · exact h1.1.ok
    · rw [List.mem_singleton] at hq; rw [hq]; exact h2.1.ok
  · rcases List.mem_cons.1 hq with rfl | hq
    · exact (h1.1.pr hk).2.2
    · rw [List.mem_singleton] at hq; rw [hq]; exact (h2.1.pr hk).2.2
theorem end_add {k : Int} {l : List AdrT} {x : AdrT} (h : EndG k l) (hl : l.length ≤ 3) (hx : (toAdr x).ok) (hp : k = 2 → 1 ≤ x.2.2.1 ∧ x.2.2.1 ≤ 256) : EndG k (l ++ [x]) := by
  have h0 := h.l2
  refine ⟨by rw [List.length_append]; simp only [List.length_cons, List.length_nil]; omega, by rw [List.length_append]; simp only [List.length_cons, List.length_nil]; omega, fun q hq => ?_, fun hk q hq => ?_⟩
  · rcases List.mem_append.1 hq with hq | hq
    · exact h.ok q hq
    · rw [List.mem_singleton] at hq; rw [hq]; exact hx
  · rcases List.mem_append.1 hq with hq | hq
    · exact h.pr hk q hq
    · rw [List.mem_singleton] at hq; rw [hq]; exact hp hk
theorem back_p {k : Int} {a x : AdrT} {P Q : Prop} (h : PtG k a ∧ P) (hb : BackG a x ∧ Q) (hn : k = 2 → ¬ (a.1 = 0 ∧ a.2.1 = 0 ∧ a.2.2.1 = 1)) : k = 2 → 1 ≤ x.2.2.1 ∧ x.2.2.1 ≤ 256 := by
  intro hk
  obtain ⟨h1, h2, h3, h4⟩ := h.1.pr hk
  have h5 := hn hk
  have h6 := hb.1.eq (by omega)
  rw [h6]
  exact ⟨by show 1 ≤ a.2.2.1 - 1; omega, by show a.2.2.1 - 1 ≤ 256; omega⟩
theorem on_p {k : Int} {a x : AdrT} {P Q : Prop} (h : PtG k a ∧ P) (hb : OnG a x ∧ Q) (hn : k = 2 → ¬ (a.1 = 0 ∧ a.2.1 = 0 ∧ a.2.2.1 = 256)) : k = 2 → 1 ≤ x.2.2.1 ∧ x.2.2.1 ≤ 256 := by
  intro hk
  obtain ⟨h1, h2, h3, h4⟩ := h.1.pr hk
  have h5 := hn hk
  have h6 := hb.1.eq (by omega)
  rw [h6]
  exact ⟨by show 1 ≤ a.2.2.1 + 1; omega, by show a.2.2.1 + 1 ≤ 256; omega⟩
theorem end_3b {k : Int} {a b x : AdrT} {P Q R : Prop} (h1 : PtG k a ∧ P) (h2 : PtG k b ∧ Q) (hb : BackG a x ∧ R) (hn : k = 2 → ¬ (a.1 = 0 ∧ a.2.1 = 0 ∧ a.2.2.1 = 1)) : EndG k ([a, b] ++ [x]) :=
  end_add (end_2 h1 h2) (by simp) hb.1.ok (back_p h1 hb hn)
theorem end_3o {k : Int} {a b x : AdrT} {P Q R : Prop} (h1 : PtG k a ∧ P) (h2 : PtG k b ∧ Q) (hb : OnG b x ∧ R) (hn : k = 2 → ¬ (b.1 = 0 ∧ b.2.1 = 0 ∧ b.2.2.1 = 256)) : EndG k ([a, b] ++ [x]) :=
  end_add (end_2 h1 h2) (by simp) hb.1.ok (on_p h2 hb hn)
theorem end_4 {k : Int} {a b x y : AdrT} {P Q R S : Prop} (h1 : PtG k a ∧ P) (h2 : PtG k b ∧ Q) (hb : BackG a x ∧ R) (ho : OnG b y ∧ S) (hn : k = 2 → ¬ (a.1 = 0 ∧ a.2.1 = 0 ∧ a.2.2.1 = 1)) (hm : k = 2 → ¬ (b.1 = 0 ∧ b.2.1 = 0 ∧ b.2.2.1 = 256)) : EndG k ([a, b] ++ [x] ++ [y]) :=
  end_add (end_3b h1 h2 hb hn) (by simp) ho.1.ok (on_p h2 ho hm)
theorem pt_ok {k : Int} {a : AdrT} {P : Prop} (h : PtG k a ∧ P) : (toAdr a).ok := h.1.ok
abbrev endSp : Spec := fnSpec [boxE, .int .i64] [.sl adrE] [28] (fun x => BoxG x.1 ∧ 0 ≤ x.2.1 ∧ x.2.1 ≤ 4) fun x y => EndG x.2.1 y.1
theorem end_fn : hasFn Try.prog 92 := ⟨_, Try.func92, by rfl, by rfl⟩
theorem end_sp {E : Env} (hE : E.ok) : SpecOk Try.prog E 92 endSp := by
  refine spec_of_vc (C := endC) end_fn Try.func92 (by kernel_rfl) endC_cx (fun x hl hx => ?_) hE
  obtain ⟨b, k, u8⟩ := x
  obtain ⟨hb, k0, k4⟩ := hx
  cbv
  (repeat' (first | ((with_reducible refine And.intro (fun h => ?_) (fun h => ?_)) <;> (first | with_reducible exact (tf h (by assumption)).elim | with_reducible exact (tf (by assumption) h).elim | cbv)) | ((with_reducible show JoinT (fun s K => vc _ (Code.region _ _ true) s K) _ _ _ _ _); (with_reducible apply JoinT.mg2); (focus (cbv; (repeat' (first | ((with_reducible refine And.intro (fun h => ?_) (fun h => ?_)) <;> (first | with_reducible exact (tf h (by assumption)).elim | with_reducible exact (tf (by assumption) h).elim | cbv)) | ((with_reducible first | refine Cb.mk ?_ | refine Lz.mk ?_ | refine JoinT.left ?_ | refine AllT.mk (fun x hx => ?_)); cbv) | ((with_reducible refine Ob.mk (fun _ => ?_) ?_); rotate_left 1) | (with_reducible first | refine Mg.mk (Exists.intro ?_ (And.intro ?_ ?_)) | rfl | refine Fin.mk ?_ | exact True.intro | refine And.intro ?_ ?_))); (all_goals (try (have du : Unit := (); have dv : Unit := (); first | exact Goes.self (Ex2.mk ⟨dv, du, trivial, trivial, rfl⟩) | exact Goes.self (Ex2.mk ⟨x, du, hx, trivial, rfl⟩) | (rename_i xa hxa; exact Goes.self (Ex2.mk ⟨xa, x, hxa, hx, rfl⟩))))); (all_goals (fail_if_success (with_reducible first | show Goes _ _ _ _ | show (∃ _, unr _ _ _ _ _ _))))))) | ((with_reducible first | refine Cb.mk ?_ | refine Lz.mk ?_ | refine JoinT.left ?_ | refine AllT.mk (fun x hx => ?_)); cbv) | ((with_reducible refine Ob.mk (fun _ => ?_) ?_); rotate_left 1) | (with_reducible first | refine Mg.mk (Exists.intro ?_ (And.intro ?_ ?_)) | rfl | refine Fin.mk ?_ | exact True.intro | refine And.intro ?_ ?_)))
  all_goals first | (with_reducible show (∃ _, unr _ _ _ _ _ _); skip) | (with_reducible show Goes _ _ _ _; skip) | (with_reducible show JoinT _ _ _ _ _ _; skip) | (first | ((try dsimp only [Shp.D, Shp.Ds, Shp.dflt] at *); simp only [vem, veq, ne_eq, cmpI, arI, dvI, shI, SV.den, obLt, elemAt, obApp, partL, obPart, lowD, highD, mxOk, convL_self, zerosB, List.length_replicate, vln] at *; (try dsimp only [Shp.D, Shp.Ds, Shp.dflt, Shp.dflts] at *); done) | ((try dsimp only [Shp.D, Shp.Ds, Shp.dflt] at *); simp only [vem, veq, ne_eq, cmpI, arI, dvI, shI, SV.den, obLt, elemAt, obApp, partL, obPart, lowD, highD, mxOk, convL_self, zerosB, List.length_replicate, vln] at *; (try dsimp only [Shp.D, Shp.Ds, Shp.dflt, Shp.dflts] at *); omega) | ((try dsimp only [Shp.D, Shp.Ds, Shp.dflt] at *); simp only [vem, veq, ne_eq, cmpI, arI, dvI, shI, SV.den, obLt, elemAt, obApp, partL, obPart, lowD, highD, mxOk, convL_self, zerosB, List.length_replicate, vln] at *; (try dsimp only [Shp.D, Shp.Ds, Shp.dflt, Shp.dflts] at *); assumption) | ((try dsimp only [Shp.D, Shp.Ds, Shp.dflt] at *); simp only [vem, veq, ne_eq, cmpI, arI, dvI, shI, SV.den, obLt, elemAt, obApp, partL, obPart, lowD, highD, mxOk, convL_self, zerosB, List.length_replicate, vln] at *; (try dsimp only [Shp.D, Shp.Ds, Shp.dflt, Shp.dflts] at *); exact pt_ok (by assumption)) | ((try dsimp only [Shp.D, Shp.Ds, Shp.dflt] at *); simp only [vem, veq, ne_eq, cmpI, arI, dvI, shI, SV.den, obLt, elemAt, obApp, partL, obPart, lowD, highD, mxOk, convL_self, zerosB, List.length_replicate, vln] at *; (try dsimp only [Shp.D, Shp.Ds, Shp.dflt, Shp.dflts] at *); exact (‹PtG k _ ∧ _›).1.fam (by assumption)) | ((try dsimp only [Shp.D, Shp.Ds, Shp.dflt] at *); simp only [vem, veq, ne_eq, cmpI, arI, dvI, shI, SV.den, obLt, elemAt, obApp, partL, obPart, lowD, highD, mxOk, convL_self, zerosB, List.length_replicate, vln] at *; (try dsimp only [Shp.D, Shp.Ds, Shp.dflt, Shp.dflts] at *); exact (‹PtG k _ ∧ _›).1.fam' (by assumption)) | ((try dsimp only [Shp.D, Shp.Ds, Shp.dflt] at *); simp only [vem, veq, ne_eq, cmpI, arI, dvI, shI, SV.den, obLt, elemAt, obApp, partL, obPart, lowD, highD, mxOk, convL_self, zerosB, List.length_replicate, vln] at *; (try dsimp only [Shp.D, Shp.Ds, Shp.dflt, Shp.dflts] at *); exact end_2 (by assumption) (by assumption)) | ((try dsimp only [Shp.D, Shp.Ds, Shp.dflt] at *); simp only [vem, veq, ne_eq, cmpI, arI, dvI, shI, SV.den, obLt, elemAt, obApp, partL, obPart, lowD, highD, mxOk, convL_self, zerosB, List.length_replicate, vln] at *; (try dsimp only [Shp.D, Shp.Ds, Shp.dflt, Shp.dflts] at *); exact end_3b (by assumption) (by assumption) (by assumption) (fun hk => by first | omega | (simp_all; done) | (simp_all; omega))) | ((try dsimp only [Shp.D, Shp.Ds, Shp.dflt] at *); simp only [vem, veq, ne_eq, cmpI, arI, dvI, shI, SV.den, obLt, elemAt, obApp, partL, obPart, lowD, highD, mxOk, convL_self, zerosB, List.length_replicate, vln] at *; (try dsimp only [Shp.D, Shp.Ds, Shp.dflt, Shp.dflts] at *); exact end_3o (by assumption) (by assumption) (by assumption) (fun hk => by first | omega | (simp_all; done) | (simp_all; omega))) | ((try dsimp only [Shp.D, Shp.Ds, Shp.dflt] at *); simp only [vem, veq, ne_eq, cmpI, arI, dvI, shI, SV.den, obLt, elemAt, obApp, partL, obPart, lowD, highD, mxOk, convL_self, zerosB, List.length_replicate, vln] at *; (try dsimp only [Shp.D, Shp.Ds, Shp.dflt, Shp.dflts] at *); exact end_4 (by assumption) (by assumption) (by assumption) (by assumption) (fun hk => by first | omega | (simp_all; done) | (simp_all; omega)) (fun hk => by first | omega | (simp_all; done) | (simp_all; omega))) | (try ((try dsimp only [Shp.D, Shp.Ds, Shp.dflt] at *); simp only [vem, veq, ne_eq, cmpI, arI, dvI, shI, SV.den, obLt, elemAt, obApp, partL, obPart, lowD, highD, mxOk, convL_self, zerosB, List.length_replicate, vln] at *; (try dsimp only [Shp.D, Shp.Ds, Shp.dflt, Shp.dflts] at *))))
end Go.Proofs.Ytiinlanpinanhaa.V
