/- Curve: Multiply (printed by wip/genmty.py). -/
import Derived.Test.YtihnagafldpbnaaVUg
import Derived.Test.YtihnagafldpbnaaVUr
import Derived.Test.YtihnagafldpbnaaVUh
import Derived.Test.YtihnagafldpbnaaVUt
set_option linter.unusedVariables false
set_option linter.unusedSimpArgs false
namespace Go.Proofs.Ytihnagafldpbnaa.V
open Go.RowKit
set_option maxHeartbeats 80000000
set_option maxRecDepth 100000
def uswC_t : SpecT := fun _ => none
def uswC : Cx := ⟨tt, qt, bt, st, uswC_t, 0, 1000000000000000, fun _ => none, false, CxE.no, []⟩
theorem uswC_si {E : Env} (h : E.ok) : SpecsOk Try.prog E (CxE.no) uswC_t (fun _ => none) := ⟨(fun t f h => by cases h), noI_ok _ _ _⟩
theorem uswC_x {E : Env} (h : E.ok) : CxEOk Try.prog E (CxE.no) := CxE.no_ok _ _
theorem uswC_cx (E : Env) (h : E.ok) (h1 : E.lo = 0) (h2 : E.hi = 1000000000000000) : Cx.ok uswC Try.prog E := ⟨tt_ok, qt_ok, bt_ok, uswC_si h, h, h1, h2, mixed_ok, uswC_x h⟩
theorem uswC_from (lo hi : Nat) (E : Env) (h : E.ok) (h1 : E.lo = lo) (h2 : E.hi = hi) : Cx.ok (Cx.from uswC lo hi) Try.prog E := ⟨tt_ok, qt_ok, bt_ok, uswC_si h, h, h1, h2, mixed_ok, uswC_x h⟩
def utC_t : SpecT := nd0 21 (nd0 19 (lf0 17 (redSp)) (nd0 20 (lf0 19 (addV)) (lf0 20 (subV)))) (nd0 22 (lf0 21 (mulV)) (nd0 23 (lf0 22 (invV)) (lf0 23 (bytSp))))
def utC_i : SpecT := lf0 18 (inlSpec uswC Try.f18)
def utC : Cx := ⟨tt, qt, bt, st, utC_t, 0, 1000000000000000, utC_i, true, CxE.no, []⟩
theorem utC_si {E : Env} (h : E.ok) : SpecsOk Try.prog E (CxE.no) utC_t (utC_i) := ⟨(nd0_ok (nd0_ok (lf0_ok (.inl (red_sp h))) (nd0_ok (lf0_ok (.inl (add_v h))) (lf0_ok (.inl (sub_v h))))) (nd0_ok (lf0_ok (.inl (mul_v h))) (nd0_ok (lf0_ok (.inl (inv_v h))) (lf0_ok (.inl (byt_sp h)))))), (lf0_ok (inl_ok h uswC_from Try.func18 ⟨by rfl, by rfl⟩ (by kernel_rfl)))⟩
theorem utC_x {E : Env} (h : E.ok) : CxEOk Try.prog E (CxE.no) := CxE.no_ok _ _
theorem utC_cx (E : Env) (h : E.ok) (h1 : E.lo = 0) (h2 : E.hi = 1000000000000000) : Cx.ok utC Try.prog E := ⟨tt_ok, qt_ok, bt_ok, utC_si h, h, h1, h2, mixed_ok, utC_x h⟩
theorem utC_from (lo hi : Nat) (E : Env) (h : E.ok) (h1 : E.lo = lo) (h2 : E.hi = hi) : Cx.ok (Cx.from utC lo hi) Try.prog E := ⟨tt_ok, qt_ok, bt_ok, utC_si h, h, h1, h2, mixed_ok, utC_x h⟩
abbrev mulSp14 : Spec := fnSpec [.sl .byte, .sl .byte] [.sl .byte, .int .i64] [5] (fun _ => True) fun (x : Shp.Ds [.sl .byte, .sl .byte]) (y : Shp.Ds [.sl .byte, .int .i64]) => (y.1, y.2.1) = mulF x.1 x.2.1
theorem mty_fn : hasFn Try.prog 10 := ⟨_, Try.func10, by rfl, by rfl⟩
theorem mty_sp {E : Env} (hE : E.ok) : SpecOk Try.prog E 10 mulSp14 := by
 refine spec_of_vc (C := utC) mty_fn Try.func10 (by kernel_rfl) utC_cx (fun x hl hx => ?_) hE
 obtain ⟨sc, pt, ⟨⟩⟩ := x
 cbv
 (repeat' (first | ((with_reducible apply And.intro <;> intro h) <;> (first | with_reducible exact (tf h (by assumption)).elim | with_reducible exact (tf (by assumption) h).elim | cbv)) | ((with_reducible show JoinT (fun s K => vc _ (Code.region _ _ true) s K) _ _ _ _ _ _); (with_reducible refine JoinT.dp ?_); cbv) | (with_reducible apply SetsK.at) | (with_reducible apply Closed.nil) | (with_reducible apply Closed.cons) | ((with_reducible first | refine AllP.k0 ?_ | (apply AllP.k1; intro x hx) | (apply AllP.k2; intro x hx x hx) | (apply AllP.k3; intro x hx x hx x hx) | (apply AllP.k4; intro x hx x hx x hx x hx)); cbv) | (with_reducible apply SetIn.at) | ((fail_if_success (with_reducible show SetIn _ _ _ [])); (with_reducible apply SetIn.tl)) | (with_reducible apply SetAt.i0) | (with_reducible apply SetAt.i1 x hx) | (rename_i x1 h1; with_reducible apply SetAt.i2 x1 x h1 hx) | (rename_i x1 h1 x2 h2; with_reducible apply SetAt.i3 x1 x2 x h1 h2 hx) | (rename_i x1 h1 x2 h2 x3 h3; with_reducible apply SetAt.i4 x1 x2 x3 x h1 h2 h3 hx) | ((with_reducible first | refine Cb.mk ?_ | refine Lz.mk ?_ | refine JoinT.left ?_ | (apply AllT.mk; intro x hx)); cbv) | ((with_reducible refine Ob.mk (fun _ => ?_) ?_); rotate_left 1) | (with_reducible first | refine Mg.mk (Exists.intro ?_ (And.intro ?_ ?_)) | rfl | refine Fin.mk ?_ | exact True.intro | refine And.intro ?_ ?_)))
 all_goals first | (with_reducible show (∃ _, unr _ _ _ _ _ _); skip) | (with_reducible show UnrI _ _ _ _ _; skip) | (with_reducible show Goes _ _ _ _; skip) | (with_reducible show JoinT _ _ _ _ _ _ _; skip) | (first | ((try dsimp only [Shp.D, Shp.Ds, Shp.dflt] at *); simp only [vem, veq, ne_eq, cmpI, arI, dvI, shI, SV.den, obLt, elemAt, obApp, partL, obPart, lowD, highD, mxOk, convL_self, zerosB, List.length_replicate, vln] at *; (try dsimp only [Shp.D, Shp.Ds, Shp.dflt, Shp.dflts] at *); done) | ((try dsimp only [Shp.D, Shp.Ds, Shp.dflt] at *); simp only [vem, veq, ne_eq, cmpI, arI, dvI, shI, SV.den, obLt, elemAt, obApp, partL, obPart, lowD, highD, mxOk, convL_self, zerosB, List.length_replicate, vln] at *; (try dsimp only [Shp.D, Shp.Ds, Shp.dflt, Shp.dflts] at *); omega) | (((try dsimp only [Shp.D, Shp.Ds, Shp.dflt] at *); simp only [vem, veq, ne_eq, cmpI, arI, dvI, shI, SV.den, obLt, elemAt, obApp, partL, obPart, lowD, highD, mxOk, convL_self, zerosB, List.length_replicate, vln] at *; (try dsimp only [Shp.D, Shp.Ds, Shp.dflt, Shp.dflts] at *)); with_reducible exact (byte_rng _).2) | (((try dsimp only [Shp.D, Shp.Ds, Shp.dflt] at *); simp only [vem, veq, ne_eq, cmpI, arI, dvI, shI, SV.den, obLt, elemAt, obApp, partL, obPart, lowD, highD, mxOk, convL_self, zerosB, List.length_replicate, vln] at *; (try dsimp only [Shp.D, Shp.Ds, Shp.dflt, Shp.dflts] at *)); with_reducible exact (bits_rng8 _ _ _).1) | (((try dsimp only [Shp.D, Shp.Ds, Shp.dflt] at *); simp only [vem, veq, ne_eq, cmpI, arI, dvI, shI, SV.den, obLt, elemAt, obApp, partL, obPart, lowD, highD, mxOk, convL_self, zerosB, List.length_replicate, vln] at *; (try dsimp only [Shp.D, Shp.Ds, Shp.dflt, Shp.dflts] at *)); with_reducible exact (bits_rng8 _ _ _).2) | (((try dsimp only [Shp.D, Shp.Ds, Shp.dflt] at *); simp only [vem, veq, ne_eq, cmpI, arI, dvI, shI, SV.den, obLt, elemAt, obApp, partL, obPart, lowD, highD, mxOk, convL_self, zerosB, List.length_replicate, vln] at *; (try dsimp only [Shp.D, Shp.Ds, Shp.dflt, Shp.dflts] at *)); unfold mulF; rw [if_neg (by omega)]))
 obtain ⟨e1, he1⟩ : ∃ e, e = x := ⟨x, rfl⟩
 subst he1
 have hE1 := hx
 with_reducible refine loop_hv [] (rangeN 14 121) [3688, 3752, 3816, 3880] [] (fun z b t y => -1 ≤ z 13 ∧ z 13 ≤ 254 ∧ LimE 2251799813947392 (z 240128, z 240129, z 240130, z 240131, z 240132, ()) ∧ LimE 2251799813947392 (z 244224, z 244225, z 244226, z 244227, z 244228, ()) ∧ LimE 2251799813947392 (z 248320, z 248321, z 248322, z 248323, z 248324, ()) ∧ LimE 2251799813947392 (z 252416, z 252417, z 252418, z 252419, z 252420, ()) ∧ ladR (kbit (clampL sc)) (valE e1.1) (z 13 + 1).toNat (valE (z 240128, z 240129, z 240130, z 240131, z 240132, ()) % 57896044618658097711785492504343953926634992332820282019728792003956564819949, valE (z 244224, z 244225, z 244226, z 244227, z 244228, ()) % 57896044618658097711785492504343953926634992332820282019728792003956564819949, valE (z 248320, z 248321, z 248322, z 248323, z 248324, ()) % 57896044618658097711785492504343953926634992332820282019728792003956564819949, valE (z 252416, z 252417, z 252418, z 252419, z 252420, ()) % 57896044618658097711785492504343953926634992332820282019728792003956564819949) = ladR (kbit (clampL sc)) (valE e1.1) 255 (1, 0, valE e1.1 % 57896044618658097711785492504343953926634992332820282019728792003956564819949, 1)) (fun z b t y => (z 13 + 1).toNat) (by cbv) (by cbv) ?_ ?_ (fun z1 b1 t1 u1 y1 R1 hP1 hR1 => ?_)
 ·refine EndOk.mk (by cbv) (by cbv) (by cbv; repeat' (first | exact True.intro | exact rfl | with_reducible refine And.intro ?_ ?_)) (by cbv; repeat' (first | exact True.intro | exact rfl | with_reducible refine And.intro ?_ ?_)) (by cbv; repeat' (first | exact True.intro | exact rfl | with_reducible refine And.intro ?_ ?_))
 ·intro zq bq tq yq hUq
  have q13 := hUq.z 13
  cbv at q13
  replace q13 := q13.eq
  simp only [atI, vem, veq, ne_eq, cmpI, arI, dvI, shI, SV.den] at q13
  have q240128 := hUq.z 240128
  cbv at q240128
  replace q240128 := q240128.eq
  simp only [atI, vem, veq, ne_eq, cmpI, arI, dvI, shI, SV.den] at q240128
  have q240129 := hUq.z 240129
  cbv at q240129
  replace q240129 := q240129.eq
  simp only [atI, vem, veq, ne_eq, cmpI, arI, dvI, shI, SV.den] at q240129
  have q240130 := hUq.z 240130
  cbv at q240130
  replace q240130 := q240130.eq
  simp only [atI, vem, veq, ne_eq, cmpI, arI, dvI, shI, SV.den] at q240130
  have q240131 := hUq.z 240131
  cbv at q240131
  replace q240131 := q240131.eq
  simp only [atI, vem, veq, ne_eq, cmpI, arI, dvI, shI, SV.den] at q240131
  have q240132 := hUq.z 240132
  cbv at q240132
  replace q240132 := q240132.eq
  simp only [atI, vem, veq, ne_eq, cmpI, arI, dvI, shI, SV.den] at q240132
  have q244224 := hUq.z 244224
  cbv at q244224
  replace q244224 := q244224.eq
  simp only [atI, vem, veq, ne_eq, cmpI, arI, dvI, shI, SV.den] at q244224
  have q244225 := hUq.z 244225
  cbv at q244225
  replace q244225 := q244225.eq
  simp only [atI, vem, veq, ne_eq, cmpI, arI, dvI, shI, SV.den] at q244225
  have q244226 := hUq.z 244226
  cbv at q244226
  replace q244226 := q244226.eq
  simp only [atI, vem, veq, ne_eq, cmpI, arI, dvI, shI, SV.den] at q244226
  have q244227 := hUq.z 244227
  cbv at q244227
  replace q244227 := q244227.eq
  simp only [atI, vem, veq, ne_eq, cmpI, arI, dvI, shI, SV.den] at q244227
  have q244228 := hUq.z 244228
  cbv at q244228
  replace q244228 := q244228.eq
  simp only [atI, vem, veq, ne_eq, cmpI, arI, dvI, shI, SV.den] at q244228
  have q248320 := hUq.z 248320
  cbv at q248320
  replace q248320 := q248320.eq
  simp only [atI, vem, veq, ne_eq, cmpI, arI, dvI, shI, SV.den] at q248320
  have q248321 := hUq.z 248321
  cbv at q248321
  replace q248321 := q248321.eq
  simp only [atI, vem, veq, ne_eq, cmpI, arI, dvI, shI, SV.den] at q248321
  have q248322 := hUq.z 248322
  cbv at q248322
  replace q248322 := q248322.eq
  simp only [atI, vem, veq, ne_eq, cmpI, arI, dvI, shI, SV.den] at q248322
  have q248323 := hUq.z 248323
  cbv at q248323
  replace q248323 := q248323.eq
  simp only [atI, vem, veq, ne_eq, cmpI, arI, dvI, shI, SV.den] at q248323
  have q248324 := hUq.z 248324
  cbv at q248324
  replace q248324 := q248324.eq
  simp only [atI, vem, veq, ne_eq, cmpI, arI, dvI, shI, SV.den] at q248324
  have q252416 := hUq.z 252416
  cbv at q252416
  replace q252416 := q252416.eq
  simp only [atI, vem, veq, ne_eq, cmpI, arI, dvI, shI, SV.den] at q252416
  have q252417 := hUq.z 252417
  cbv at q252417
  replace q252417 := q252417.eq
  simp only [atI, vem, veq, ne_eq, cmpI, arI, dvI, shI, SV.den] at q252417
  have q252418 := hUq.z 252418
  cbv at q252418
  replace q252418 := q252418.eq
  simp only [atI, vem, veq, ne_eq, cmpI, arI, dvI, shI, SV.den] at q252418
  have q252419 := hUq.z 252419
  cbv at q252419
  replace q252419 := q252419.eq
  simp only [atI, vem, veq, ne_eq, cmpI, arI, dvI, shI, SV.den] at q252419
  have q252420 := hUq.z 252420
  cbv at q252420
  replace q252420 := q252420.eq
  simp only [atI, vem, veq, ne_eq, cmpI, arI, dvI, shI, SV.den] at q252420
  clear hUq
  try dsimp only [Shp.D, Shp.Ds, Shp.dflt] at *
  try simp only [vem, veq, ne_eq, cmpI, arI, dvI, shI, SV.den, convL_self] at *
  rw [← q13, ← q240128, ← q240129, ← q240130, ← q240131, ← q240132, ← q244224, ← q244225, ← q244226, ← q244227, ← q244228, ← q248320, ← q248321, ← q248322, ← q248323, ← q248324, ← q252416, ← q252417, ← q252418, ← q252419, ← q252420]
  exact ⟨by omega, by omega, lim_1, lim_0, hx.1.1, lim_1, rfl⟩
 obtain ⟨p1, p2, p3, p4, p5, p6, p7⟩ := hP1
 cbv
 (repeat' (first | ((with_reducible apply And.intro <;> intro h) <;> (first | with_reducible exact (tf h (by assumption)).elim | with_reducible exact (tf (by assumption) h).elim | cbv)) | ((with_reducible show JoinT (fun s K => vc _ (Code.region _ _ true) s K) _ _ _ _ _ _); (with_reducible refine JoinT.dp ?_); cbv) | (with_reducible apply SetsK.at) | (with_reducible apply Closed.nil) | (with_reducible apply Closed.cons) | ((with_reducible first | refine AllP.k0 ?_ | (apply AllP.k1; intro x hx) | (apply AllP.k2; intro x hx x hx) | (apply AllP.k3; intro x hx x hx x hx) | (apply AllP.k4; intro x hx x hx x hx x hx)); cbv) | (with_reducible apply SetIn.at) | ((fail_if_success (with_reducible show SetIn _ _ _ [])); (with_reducible apply SetIn.tl)) | (with_reducible apply SetAt.i0) | (with_reducible apply SetAt.i1 x hx) | (rename_i x1 h1; with_reducible apply SetAt.i2 x1 x h1 hx) | (rename_i x1 h1 x2 h2; with_reducible apply SetAt.i3 x1 x2 x h1 h2 hx) | (rename_i x1 h1 x2 h2 x3 h3; with_reducible apply SetAt.i4 x1 x2 x3 x h1 h2 h3 hx) | ((with_reducible first | refine Cb.mk ?_ | refine Lz.mk ?_ | refine JoinT.left ?_ | (apply AllT.mk; intro x hx)); cbv) | ((with_reducible refine Ob.mk (fun _ => ?_) ?_); rotate_left 1) | (with_reducible first | refine Mg.mk (Exists.intro ?_ (And.intro ?_ ?_)) | rfl | refine Fin.mk ?_ | exact True.intro | refine And.intro ?_ ?_)))
 all_goals first
  | (with_reducible show (∃ _, unr _ _ _ _ _ _); skip)
  | (exact p4)
  | (exact ⟨p3, hx.1.1⟩)
  | (((try dsimp only [Shp.D, Shp.Ds, Shp.dflt] at *); simp only [vem, veq, ne_eq, cmpI, arI, dvI, shI, SV.den, obLt, elemAt, obApp, partL, obPart, lowD, highD, mxOk, convL_self, zerosB, List.length_replicate, vln] at *; (try dsimp only [Shp.D, Shp.Ds, Shp.dflt, Shp.dflts] at *)); omega)
  | (((try dsimp only [Shp.D, Shp.Ds, Shp.dflt] at *); simp only [vem, veq, ne_eq, cmpI, arI, dvI, shI, SV.den, obLt, elemAt, obApp, partL, obPart, lowD, highD, mxOk, convL_self, zerosB, List.length_replicate, vln] at *; (try dsimp only [Shp.D, Shp.Ds, Shp.dflt, Shp.dflts] at *)); rw [Int.tmod_eq_emod_of_nonneg (by omega)]; omega)
  | (((try dsimp only [Shp.D, Shp.Ds, Shp.dflt] at *); simp only [vem, veq, ne_eq, cmpI, arI, dvI, shI, SV.den, obLt, elemAt, obApp, partL, obPart, lowD, highD, mxOk, convL_self, zerosB, List.length_replicate, vln] at *; (try dsimp only [Shp.D, Shp.Ds, Shp.dflt, Shp.dflts] at *)); rw [Int.tdiv_eq_ediv_of_nonneg (by omega)]; omega)
  | (((try dsimp only [Shp.D, Shp.Ds, Shp.dflt] at *); simp only [vem, veq, ne_eq, cmpI, arI, dvI, shI, SV.den, obLt, elemAt, obApp, partL, obPart, lowD, highD, mxOk, convL_self, zerosB, List.length_replicate, vln] at *; (try dsimp only [Shp.D, Shp.Ds, Shp.dflt, Shp.dflts] at *)); (with_reducible first | assumption | exact LimE.of3 (by with_reducible assumption) | (refine LimE.eta ?_; first | assumption | exact LimE.of3 (by with_reducible assumption)) | exact lim_c))
  | (((try dsimp only [Shp.D, Shp.Ds, Shp.dflt] at *); simp only [vem, veq, ne_eq, cmpI, arI, dvI, shI, SV.den, obLt, elemAt, obApp, partL, obPart, lowD, highD, mxOk, convL_self, zerosB, List.length_replicate, vln] at *; (try dsimp only [Shp.D, Shp.Ds, Shp.dflt, Shp.dflts] at *)); rename_i gi gm; rw [hx.1]; exact mul_ok (by omega) (by omega) (hE1.1.2.trans (pt_ok pt (by omega))) (by rw [show (z1 13 + 1).toNat = 0 by omega] at p7; exact p7) gi.1.2 gm.1.2)
 as_aux_lemma =>
  refine ⟨5, ?_⟩
  cbv
  (repeat' (first | ((with_reducible apply And.intro <;> intro h) <;> (first | with_reducible exact (tf h (by assumption)).elim | with_reducible exact (tf (by assumption) h).elim | cbv)) | ((with_reducible show JoinT (fun s K => vc _ (Code.region _ _ true) s K) _ _ _ _ _ _); (with_reducible refine JoinT.dp ?_); cbv) | (with_reducible apply SetsK.at) | (with_reducible apply Closed.nil) | (with_reducible apply Closed.cons) | ((with_reducible first | refine AllP.k0 ?_ | (apply AllP.k1; intro x hx) | (apply AllP.k2; intro x hx x hx) | (apply AllP.k3; intro x hx x hx x hx) | (apply AllP.k4; intro x hx x hx x hx x hx)); cbv) | (with_reducible apply SetIn.at) | ((fail_if_success (with_reducible show SetIn _ _ _ [])); (with_reducible apply SetIn.tl)) | (with_reducible apply SetAt.i0) | (with_reducible apply SetAt.i1 x hx) | (rename_i x1 h1; with_reducible apply SetAt.i2 x1 x h1 hx) | (rename_i x1 h1 x2 h2; with_reducible apply SetAt.i3 x1 x2 x h1 h2 hx) | (rename_i x1 h1 x2 h2 x3 h3; with_reducible apply SetAt.i4 x1 x2 x3 x h1 h2 h3 hx) | ((with_reducible first | refine Cb.mk ?_ | refine Lz.mk ?_ | refine JoinT.left ?_ | (apply AllT.mk; intro x hx)); cbv) | ((with_reducible refine Ob.mk (fun _ => ?_) ?_); rotate_left 1) | (with_reducible first | refine Mg.mk (Exists.intro ?_ (And.intro ?_ ?_)) | rfl | refine Fin.mk ?_ | exact True.intro | refine And.intro ?_ ?_)))
  all_goals first | (with_reducible show (∃ _, unr _ _ _ _ _ _); skip) | (with_reducible show UnrI _ _ _ _ _; skip) | (with_reducible show Goes _ _ _ _; skip) | (with_reducible show JoinT _ _ _ _ _ _ _; skip) | (((try dsimp only [Shp.D, Shp.Ds, Shp.dflt] at *); simp only [vem, veq, ne_eq, cmpI, arI, dvI, shI, SV.den, obLt, elemAt, obApp, partL, obPart, lowD, highD, mxOk, convL_self, zerosB, List.length_replicate, vln] at *; (try dsimp only [Shp.D, Shp.Ds, Shp.dflt, Shp.dflts] at *)); omega)
  with_reducible refine loop_hvZ [] (7 :: 8 :: rangeN 13 34) [3688, 3816] [] (fun z b t y => z 12 = 5 ∧ LimE 2251799813947392 (z 240128, z 240129, z 240130, z 240131, z 240132, ()) ∧ LimE 2251799813947392 (z 248320, z 248321, z 248322, z 248323, z 248324, ()) ∧ valE (z 240128, z 240129, z 240130, z 240131, z 240132, ()) = (if kbit (clampL sc) (z1 13).toNat = 1 then valE (z1 248320, z1 248321, z1 248322, z1 248323, z1 248324, ()) else valE (z1 240128, z1 240129, z1 240130, z1 240131, z1 240132, ())) ∧ valE (z 248320, z 248321, z 248322, z 248323, z 248324, ()) = (if kbit (clampL sc) (z1 13).toNat = 1 then valE (z1 240128, z1 240129, z1 240130, z1 240131, z1 240132, ()) else valE (z1 248320, z1 248321, z1 248322, z1 248323, z1 248324, ()))) (fun z b t y => (5 - z 12).toNat) (by rfl) (by rfl) (by cbv) (by cbv) ?_ ?_ (fun z2 b2 t2 u2 y2 R2 hP2 hR2 => ?_)
  ·refine EndOk.mk (by cbv) (by cbv) (by cbv; repeat' (first | exact True.intro | exact rfl | with_reducible refine And.intro ?_ ?_)) (by cbv; repeat' (first | exact True.intro | exact rfl | with_reducible refine And.intro ?_ ?_)) (by cbv; repeat' (first | exact True.intro | exact rfl | with_reducible refine And.intro ?_ ?_))
  ·intro zq bq tq yq hUq
   have q12 := hUq.z 12
   cbv at q12
   replace q12 := q12.eq
   simp only [atI, vem, veq, ne_eq, cmpI, arI, dvI, shI, SV.den] at q12
   have q240128 := hUq.z 240128
   cbv at q240128
   replace q240128 := q240128.eq
   simp only [atI, vem, veq, ne_eq, cmpI, arI, dvI, shI, SV.den] at q240128
   have q240129 := hUq.z 240129
   cbv at q240129
   replace q240129 := q240129.eq
   simp only [atI, vem, veq, ne_eq, cmpI, arI, dvI, shI, SV.den] at q240129
   have q240130 := hUq.z 240130
   cbv at q240130
   replace q240130 := q240130.eq
   simp only [atI, vem, veq, ne_eq, cmpI, arI, dvI, shI, SV.den] at q240130
   have q240131 := hUq.z 240131
   cbv at q240131
   replace q240131 := q240131.eq
   simp only [atI, vem, veq, ne_eq, cmpI, arI, dvI, shI, SV.den] at q240131
   have q240132 := hUq.z 240132
   cbv at q240132
   replace q240132 := q240132.eq
   simp only [atI, vem, veq, ne_eq, cmpI, arI, dvI, shI, SV.den] at q240132
   have q248320 := hUq.z 248320
   cbv at q248320
   replace q248320 := q248320.eq
   simp only [atI, vem, veq, ne_eq, cmpI, arI, dvI, shI, SV.den] at q248320
   have q248321 := hUq.z 248321
   cbv at q248321
   replace q248321 := q248321.eq
   simp only [atI, vem, veq, ne_eq, cmpI, arI, dvI, shI, SV.den] at q248321
   have q248322 := hUq.z 248322
   cbv at q248322
   replace q248322 := q248322.eq
   simp only [atI, vem, veq, ne_eq, cmpI, arI, dvI, shI, SV.den] at q248322
   have q248323 := hUq.z 248323
   cbv at q248323
   replace q248323 := q248323.eq
   simp only [atI, vem, veq, ne_eq, cmpI, arI, dvI, shI, SV.den] at q248323
   have q248324 := hUq.z 248324
   cbv at q248324
   replace q248324 := q248324.eq
   simp only [atI, vem, veq, ne_eq, cmpI, arI, dvI, shI, SV.den] at q248324
   clear hUq
   try dsimp only [Shp.D, Shp.Ds, Shp.dflt] at *
   try simp only [vem, veq, ne_eq, cmpI, arI, dvI, shI, SV.den, convL_self] at *
   exact ⟨by omega, sw_cut (t_ok sc (by omega) (by omega) p2) (kbit01 _ _) p3 p5 q240128 q240129 q240130 q240131 q240132 q248320 q248321 q248322 q248323 q248324⟩
  obtain ⟨a2, b2, c2, d2, f2⟩ := hP2
  as_aux_lemma =>
   cbv
   (repeat' (first | ((with_reducible apply And.intro <;> intro h) <;> (first | with_reducible exact (tf h (by assumption)).elim | with_reducible exact (tf (by assumption) h).elim | cbv)) | ((with_reducible show JoinT (fun s K => vc _ (Code.region _ _ true) s K) _ _ _ _ _ _); (with_reducible refine JoinT.dp ?_); cbv) | (with_reducible apply SetsK.at) | (with_reducible apply Closed.nil) | (with_reducible apply Closed.cons) | ((with_reducible first | refine AllP.k0 ?_ | (apply AllP.k1; intro x hx) | (apply AllP.k2; intro x hx x hx) | (apply AllP.k3; intro x hx x hx x hx) | (apply AllP.k4; intro x hx x hx x hx x hx)); cbv) | (with_reducible apply SetIn.at) | ((fail_if_success (with_reducible show SetIn _ _ _ [])); (with_reducible apply SetIn.tl)) | (with_reducible apply SetAt.i0) | (with_reducible apply SetAt.i1 x hx) | (rename_i x1 h1; with_reducible apply SetAt.i2 x1 x h1 hx) | (rename_i x1 h1 x2 h2; with_reducible apply SetAt.i3 x1 x2 x h1 h2 hx) | (rename_i x1 h1 x2 h2 x3 h3; with_reducible apply SetAt.i4 x1 x2 x3 x h1 h2 h3 hx) | ((with_reducible first | refine Cb.mk ?_ | refine Lz.mk ?_ | refine JoinT.left ?_ | (apply AllT.mk; intro x hx)); cbv) | ((with_reducible refine Ob.mk (fun _ => ?_) ?_); rotate_left 1) | (with_reducible first | refine Mg.mk (Exists.intro ?_ (And.intro ?_ ?_)) | rfl | refine Fin.mk ?_ | exact True.intro | refine And.intro ?_ ?_)))
   all_goals first
    | (with_reducible show (∃ _, unr _ _ _ _ _ _); skip)
    | (with_reducible show Goes _ _ _ _; skip)
    | (with_reducible show JoinT _ _ _ _ _ _ _; skip)
    | (with_reducible first | assumption | exact LimE.of3 (by with_reducible assumption) | (refine LimE.eta ?_; first | assumption | exact LimE.of3 (by with_reducible assumption)) | exact lim_c)
    | ((try simp only [vem, veq, ne_eq, cmpI, arI, dvI, shI, SV.den]); (with_reducible first | assumption | exact LimE.of3 (by with_reducible assumption) | (refine LimE.eta ?_; first | assumption | exact LimE.of3 (by with_reducible assumption)) | exact lim_c))
    | (exfalso; ((try dsimp only [Shp.D, Shp.Ds, Shp.dflt] at *); simp only [vem, veq, ne_eq, cmpI, arI, dvI, shI, SV.den, obLt, elemAt, obApp, partL, obPart, lowD, highD, mxOk, convL_self, zerosB, List.length_replicate, vln] at *; (try dsimp only [Shp.D, Shp.Ds, Shp.dflt, Shp.dflts] at *)); omega)
    | (((try dsimp only [Shp.D, Shp.Ds, Shp.dflt] at *); simp only [vem, veq, ne_eq, cmpI, arI, dvI, shI, SV.den, obLt, elemAt, obApp, partL, obPart, lowD, highD, mxOk, convL_self, zerosB, List.length_replicate, vln] at *; (try dsimp only [Shp.D, Shp.Ds, Shp.dflt, Shp.dflts] at *)); (with_reducible first | assumption | exact LimE.of3 (by with_reducible assumption) | (refine LimE.eta ?_; first | assumption | exact LimE.of3 (by with_reducible assumption)) | exact lim_c))
   refine ⟨5, ?_⟩
   cbv
   (repeat' (first | ((with_reducible apply And.intro <;> intro h) <;> (first | with_reducible exact (tf h (by assumption)).elim | with_reducible exact (tf (by assumption) h).elim | cbv)) | ((with_reducible show JoinT (fun s K => vc _ (Code.region _ _ true) s K) _ _ _ _ _ _); (with_reducible refine JoinT.dp ?_); cbv) | (with_reducible apply SetsK.at) | (with_reducible apply Closed.nil) | (with_reducible apply Closed.cons) | ((with_reducible first | refine AllP.k0 ?_ | (apply AllP.k1; intro x hx) | (apply AllP.k2; intro x hx x hx) | (apply AllP.k3; intro x hx x hx x hx) | (apply AllP.k4; intro x hx x hx x hx x hx)); cbv) | (with_reducible apply SetIn.at) | ((fail_if_success (with_reducible show SetIn _ _ _ [])); (with_reducible apply SetIn.tl)) | (with_reducible apply SetAt.i0) | (with_reducible apply SetAt.i1 x hx) | (rename_i x1 h1; with_reducible apply SetAt.i2 x1 x h1 hx) | (rename_i x1 h1 x2 h2; with_reducible apply SetAt.i3 x1 x2 x h1 h2 hx) | (rename_i x1 h1 x2 h2 x3 h3; with_reducible apply SetAt.i4 x1 x2 x3 x h1 h2 h3 hx) | ((with_reducible first | refine Cb.mk ?_ | refine Lz.mk ?_ | refine JoinT.left ?_ | (apply AllT.mk; intro x hx)); cbv) | ((with_reducible refine Ob.mk (fun _ => ?_) ?_); rotate_left 1) | (with_reducible first | refine Mg.mk (Exists.intro ?_ (And.intro ?_ ?_)) | rfl | refine Fin.mk ?_ | exact True.intro | refine And.intro ?_ ?_)))
   all_goals first | (with_reducible show (∃ _, unr _ _ _ _ _ _); skip) | (with_reducible show UnrI _ _ _ _ _; skip) | (with_reducible show Goes _ _ _ _; skip) | (with_reducible show JoinT _ _ _ _ _ _ _; skip) | (((try dsimp only [Shp.D, Shp.Ds, Shp.dflt] at *); simp only [vem, veq, ne_eq, cmpI, arI, dvI, shI, SV.den, obLt, elemAt, obApp, partL, obPart, lowD, highD, mxOk, convL_self, zerosB, List.length_replicate, vln] at *; (try dsimp only [Shp.D, Shp.Ds, Shp.dflt, Shp.dflts] at *)); omega)
   with_reducible refine loop_hvZ [] (7 :: 8 :: rangeN 13 34) [3752, 3880] [] (fun z b t y => z 12 = 5 ∧ LimE 2251799813947392 (z 244224, z 244225, z 244226, z 244227, z 244228, ()) ∧ LimE 2251799813947392 (z 252416, z 252417, z 252418, z 252419, z 252420, ()) ∧ valE (z 244224, z 244225, z 244226, z 244227, z 244228, ()) = (if kbit (clampL sc) (z1 13).toNat = 1 then valE (z1 252416, z1 252417, z1 252418, z1 252419, z1 252420, ()) else valE (z1 244224, z1 244225, z1 244226, z1 244227, z1 244228, ())) ∧ valE (z 252416, z 252417, z 252418, z 252419, z 252420, ()) = (if kbit (clampL sc) (z1 13).toNat = 1 then valE (z1 244224, z1 244225, z1 244226, z1 244227, z1 244228, ()) else valE (z1 252416, z1 252417, z1 252418, z1 252419, z1 252420, ()))) (fun z b t y => (5 - z 12).toNat) (by rfl) (by rfl) (by cbv) (by cbv) ?_ ?_ (fun z3 b3 t3 u3 y3 R3 hP3 hR3 => ?_)
   ·refine EndOk.mk (by cbv) (by cbv) (by cbv; repeat' (first | exact True.intro | exact rfl | with_reducible refine And.intro ?_ ?_)) (by cbv; repeat' (first | exact True.intro | exact rfl | with_reducible refine And.intro ?_ ?_)) (by cbv; repeat' (first | exact True.intro | exact rfl | with_reducible refine And.intro ?_ ?_))
   ·intro zq bq tq yq hUq
    have q12 := hUq.z 12
    cbv at q12
    replace q12 := q12.eq
    simp only [atI, vem, veq, ne_eq, cmpI, arI, dvI, shI, SV.den] at q12
    have q244224 := hUq.z 244224
    cbv at q244224
    replace q244224 := q244224.eq
    simp only [atI, vem, veq, ne_eq, cmpI, arI, dvI, shI, SV.den] at q244224
    have q244225 := hUq.z 244225
    cbv at q244225
    replace q244225 := q244225.eq
    simp only [atI, vem, veq, ne_eq, cmpI, arI, dvI, shI, SV.den] at q244225
    have q244226 := hUq.z 244226
    cbv at q244226
    replace q244226 := q244226.eq
    simp only [atI, vem, veq, ne_eq, cmpI, arI, dvI, shI, SV.den] at q244226
    have q244227 := hUq.z 244227
    cbv at q244227
    replace q244227 := q244227.eq
    simp only [atI, vem, veq, ne_eq, cmpI, arI, dvI, shI, SV.den] at q244227
    have q244228 := hUq.z 244228
    cbv at q244228
    replace q244228 := q244228.eq
    simp only [atI, vem, veq, ne_eq, cmpI, arI, dvI, shI, SV.den] at q244228
    have q252416 := hUq.z 252416
    cbv at q252416
    replace q252416 := q252416.eq
    simp only [atI, vem, veq, ne_eq, cmpI, arI, dvI, shI, SV.den] at q252416
    have q252417 := hUq.z 252417
    cbv at q252417
    replace q252417 := q252417.eq
    simp only [atI, vem, veq, ne_eq, cmpI, arI, dvI, shI, SV.den] at q252417
    have q252418 := hUq.z 252418
    cbv at q252418
    replace q252418 := q252418.eq
    simp only [atI, vem, veq, ne_eq, cmpI, arI, dvI, shI, SV.den] at q252418
    have q252419 := hUq.z 252419
    cbv at q252419
    replace q252419 := q252419.eq
    simp only [atI, vem, veq, ne_eq, cmpI, arI, dvI, shI, SV.den] at q252419
    have q252420 := hUq.z 252420
    cbv at q252420
    replace q252420 := q252420.eq
    simp only [atI, vem, veq, ne_eq, cmpI, arI, dvI, shI, SV.den] at q252420
    clear hUq
    try dsimp only [Shp.D, Shp.Ds, Shp.dflt] at *
    try simp only [vem, veq, ne_eq, cmpI, arI, dvI, shI, SV.den, convL_self] at *
    exact ⟨by omega, sw_cut (t_ok sc (by omega) (by omega) p2) (kbit01 _ _) p4 p6 q244224 q244225 q244226 q244227 q244228 q252416 q252417 q252418 q252419 q252420⟩
   obtain ⟨a3, b3, c3, d3, f3⟩ := hP3
   as_aux_lemma =>
    cbv
    (repeat' (first | ((with_reducible apply And.intro <;> intro h) <;> (first | with_reducible exact (tf h (by assumption)).elim | with_reducible exact (tf (by assumption) h).elim | cbv)) | ((fail_if_success (with_reducible show JoinT (fun s K => vc _ (Code.region _ _ true) s K) _ _ _ _ _ _)); (with_reducible refine JoinT.left ?_); cbv) | (with_reducible apply SetsK.at) | (with_reducible apply Closed.nil) | (with_reducible apply Closed.cons) | ((with_reducible first | refine AllP.k0 ?_ | (apply AllP.k1; intro x hx) | (apply AllP.k2; intro x hx x hx) | (apply AllP.k3; intro x hx x hx x hx) | (apply AllP.k4; intro x hx x hx x hx x hx)); cbv) | (with_reducible apply SetIn.at) | ((fail_if_success (with_reducible show SetIn _ _ _ [])); (with_reducible apply SetIn.tl)) | (with_reducible apply SetAt.i0) | (with_reducible apply SetAt.i1 x hx) | (rename_i x1 h1; with_reducible apply SetAt.i2 x1 x h1 hx) | (rename_i x1 h1 x2 h2; with_reducible apply SetAt.i3 x1 x2 x h1 h2 hx) | (rename_i x1 h1 x2 h2 x3 h3; with_reducible apply SetAt.i4 x1 x2 x3 x h1 h2 h3 hx) | ((with_reducible first | refine Cb.mk ?_ | refine Lz.mk ?_ | (apply AllT.mk; intro x hx)); cbv) | ((with_reducible refine Ob.mk (fun _ => ?_) ?_); rotate_left 1) | (with_reducible first | refine Mg.mk (Exists.intro ?_ (And.intro ?_ ?_)) | rfl | refine Fin.mk ?_ | exact True.intro | refine And.intro ?_ ?_)))
    all_goals first
     | (with_reducible show (∃ _, unr _ _ _ _ _ _); skip)
     | (with_reducible show Goes _ _ _ _; skip)
     | (with_reducible show JoinT _ _ _ _ _ _ _; skip)
     | (with_reducible first | assumption | exact LimE.of3 (by with_reducible assumption) | (refine LimE.eta ?_; first | assumption | exact LimE.of3 (by with_reducible assumption)) | exact lim_c)
     | ((try simp only [vem, veq, ne_eq, cmpI, arI, dvI, shI, SV.den]); (with_reducible first | assumption | exact LimE.of3 (by with_reducible assumption) | (refine LimE.eta ?_; first | assumption | exact LimE.of3 (by with_reducible assumption)) | exact lim_c))
     | (exfalso; ((try dsimp only [Shp.D, Shp.Ds, Shp.dflt] at *); simp only [vem, veq, ne_eq, cmpI, arI, dvI, shI, SV.den, obLt, elemAt, obApp, partL, obPart, lowD, highD, mxOk, convL_self, zerosB, List.length_replicate, vln] at *; (try dsimp only [Shp.D, Shp.Ds, Shp.dflt, Shp.dflts] at *)); omega)
     | (((try dsimp only [Shp.D, Shp.Ds, Shp.dflt] at *); simp only [vem, veq, ne_eq, cmpI, arI, dvI, shI, SV.den, obLt, elemAt, obApp, partL, obPart, lowD, highD, mxOk, convL_self, zerosB, List.length_replicate, vln] at *; (try dsimp only [Shp.D, Shp.Ds, Shp.dflt, Shp.dflts] at *)); (with_reducible first | assumption | exact LimE.of3 (by with_reducible assumption) | (refine LimE.eta ?_; first | assumption | exact LimE.of3 (by with_reducible assumption)) | exact lim_c))
    as_aux_lemma =>
     with_reducible refine JoinT.dp ?_
     cbv
     (repeat' (first | ((with_reducible apply And.intro <;> intro h) <;> (first | with_reducible exact (tf h (by assumption)).elim | with_reducible exact (tf (by assumption) h).elim | cbv)) | ((fail_if_success (with_reducible show JoinT (fun s K => vc _ (Code.region _ _ true) s K) _ _ _ _ _ _)); (with_reducible refine JoinT.left ?_); cbv) | (with_reducible apply SetsK.at) | (with_reducible apply Closed.nil) | (with_reducible apply Closed.cons) | ((with_reducible first | refine AllP.k0 ?_ | (apply AllP.k1; intro x hx) | (apply AllP.k2; intro x hx x hx) | (apply AllP.k3; intro x hx x hx x hx) | (apply AllP.k4; intro x hx x hx x hx x hx)); cbv) | (with_reducible apply SetIn.at) | ((fail_if_success (with_reducible show SetIn _ _ _ [])); (with_reducible apply SetIn.tl)) | (with_reducible apply SetAt.i0) | (with_reducible apply SetAt.i1 x hx) | (rename_i x1 h1; with_reducible apply SetAt.i2 x1 x h1 hx) | (rename_i x1 h1 x2 h2; with_reducible apply SetAt.i3 x1 x2 x h1 h2 hx) | (rename_i x1 h1 x2 h2 x3 h3; with_reducible apply SetAt.i4 x1 x2 x3 x h1 h2 h3 hx) | ((with_reducible first | refine Cb.mk ?_ | refine Lz.mk ?_ | (apply AllT.mk; intro x hx)); cbv) | ((with_reducible refine Ob.mk (fun _ => ?_) ?_); rotate_left 1) | (with_reducible first | refine Mg.mk (Exists.intro ?_ (And.intro ?_ ?_)) | rfl | refine Fin.mk ?_ | exact True.intro | refine And.intro ?_ ?_)))
     all_goals first
      | (with_reducible show (∃ _, unr _ _ _ _ _ _); skip)
      | (with_reducible show Goes _ _ _ _; skip)
      | (with_reducible show JoinT _ _ _ _ _ _ _; skip)
      | (with_reducible first | assumption | exact LimE.of3 (by with_reducible assumption) | (refine LimE.eta ?_; first | assumption | exact LimE.of3 (by with_reducible assumption)) | exact lim_c)
      | ((try simp only [vem, veq, ne_eq, cmpI, arI, dvI, shI, SV.den]); (with_reducible first | assumption | exact LimE.of3 (by with_reducible assumption) | (refine LimE.eta ?_; first | assumption | exact LimE.of3 (by with_reducible assumption)) | exact lim_c))
      | (exfalso; ((try dsimp only [Shp.D, Shp.Ds, Shp.dflt] at *); simp only [vem, veq, ne_eq, cmpI, arI, dvI, shI, SV.den, obLt, elemAt, obApp, partL, obPart, lowD, highD, mxOk, convL_self, zerosB, List.length_replicate, vln] at *; (try dsimp only [Shp.D, Shp.Ds, Shp.dflt, Shp.dflts] at *)); omega)
      | (((try dsimp only [Shp.D, Shp.Ds, Shp.dflt] at *); simp only [vem, veq, ne_eq, cmpI, arI, dvI, shI, SV.den, obLt, elemAt, obApp, partL, obPart, lowD, highD, mxOk, convL_self, zerosB, List.length_replicate, vln] at *; (try dsimp only [Shp.D, Shp.Ds, Shp.dflt, Shp.dflts] at *)); (with_reducible first | assumption | exact LimE.of3 (by with_reducible assumption) | (refine LimE.eta ?_; first | assumption | exact LimE.of3 (by with_reducible assumption)) | exact lim_c))
     as_aux_lemma =>
      with_reducible refine JoinT.dp ?_
      cbv
      (repeat' (first | ((with_reducible apply And.intro <;> intro h) <;> (first | with_reducible exact (tf h (by assumption)).elim | with_reducible exact (tf (by assumption) h).elim | cbv)) | ((fail_if_success (with_reducible show JoinT (fun s K => vc _ (Code.region _ _ true) s K) _ _ _ _ _ _)); (with_reducible refine JoinT.left ?_); cbv) | (with_reducible apply SetsK.at) | (with_reducible apply Closed.nil) | (with_reducible apply Closed.cons) | ((with_reducible first | refine AllP.k0 ?_ | (apply AllP.k1; intro x hx) | (apply AllP.k2; intro x hx x hx) | (apply AllP.k3; intro x hx x hx x hx) | (apply AllP.k4; intro x hx x hx x hx x hx)); cbv) | (with_reducible apply SetIn.at) | ((fail_if_success (with_reducible show SetIn _ _ _ [])); (with_reducible apply SetIn.tl)) | (with_reducible apply SetAt.i0) | (with_reducible apply SetAt.i1 x hx) | (rename_i x1 h1; with_reducible apply SetAt.i2 x1 x h1 hx) | (rename_i x1 h1 x2 h2; with_reducible apply SetAt.i3 x1 x2 x h1 h2 hx) | (rename_i x1 h1 x2 h2 x3 h3; with_reducible apply SetAt.i4 x1 x2 x3 x h1 h2 h3 hx) | ((with_reducible first | refine Cb.mk ?_ | refine Lz.mk ?_ | (apply AllT.mk; intro x hx)); cbv) | ((with_reducible refine Ob.mk (fun _ => ?_) ?_); rotate_left 1) | (with_reducible first | refine Mg.mk (Exists.intro ?_ (And.intro ?_ ?_)) | rfl | refine Fin.mk ?_ | exact True.intro | refine And.intro ?_ ?_)))
      all_goals first
       | (with_reducible show (∃ _, unr _ _ _ _ _ _); skip)
       | (with_reducible show Goes _ _ _ _; skip)
       | (with_reducible show JoinT _ _ _ _ _ _ _; skip)
       | (with_reducible first | assumption | exact LimE.of3 (by with_reducible assumption) | (refine LimE.eta ?_; first | assumption | exact LimE.of3 (by with_reducible assumption)) | exact lim_c)
       | ((try simp only [vem, veq, ne_eq, cmpI, arI, dvI, shI, SV.den]); (with_reducible first | assumption | exact LimE.of3 (by with_reducible assumption) | (refine LimE.eta ?_; first | assumption | exact LimE.of3 (by with_reducible assumption)) | exact lim_c))
       | (exfalso; ((try dsimp only [Shp.D, Shp.Ds, Shp.dflt] at *); simp only [vem, veq, ne_eq, cmpI, arI, dvI, shI, SV.den, obLt, elemAt, obApp, partL, obPart, lowD, highD, mxOk, convL_self, zerosB, List.length_replicate, vln] at *; (try dsimp only [Shp.D, Shp.Ds, Shp.dflt, Shp.dflts] at *)); omega)
       | (((try dsimp only [Shp.D, Shp.Ds, Shp.dflt] at *); simp only [vem, veq, ne_eq, cmpI, arI, dvI, shI, SV.den, obLt, elemAt, obApp, partL, obPart, lowD, highD, mxOk, convL_self, zerosB, List.length_replicate, vln] at *; (try dsimp only [Shp.D, Shp.Ds, Shp.dflt, Shp.dflts] at *)); (with_reducible first | assumption | exact LimE.of3 (by with_reducible assumption) | (refine LimE.eta ?_; first | assumption | exact LimE.of3 (by with_reducible assumption)) | exact lim_c))
      as_aux_lemma =>
       with_reducible refine JoinT.dp ?_
       cbv
       (repeat' (first | ((with_reducible apply And.intro <;> intro h) <;> (first | with_reducible exact (tf h (by assumption)).elim | with_reducible exact (tf (by assumption) h).elim | cbv)) | ((fail_if_success (with_reducible show JoinT (fun s K => vc _ (Code.region _ _ true) s K) _ _ _ _ _ _)); (with_reducible refine JoinT.left ?_); cbv) | (with_reducible apply SetsK.at) | (with_reducible apply Closed.nil) | (with_reducible apply Closed.cons) | ((with_reducible first | refine AllP.k0 ?_ | (apply AllP.k1; intro x hx) | (apply AllP.k2; intro x hx x hx) | (apply AllP.k3; intro x hx x hx x hx) | (apply AllP.k4; intro x hx x hx x hx x hx)); cbv) | (with_reducible apply SetIn.at) | ((fail_if_success (with_reducible show SetIn _ _ _ [])); (with_reducible apply SetIn.tl)) | (with_reducible apply SetAt.i0) | (with_reducible apply SetAt.i1 x hx) | (rename_i x1 h1; with_reducible apply SetAt.i2 x1 x h1 hx) | (rename_i x1 h1 x2 h2; with_reducible apply SetAt.i3 x1 x2 x h1 h2 hx) | (rename_i x1 h1 x2 h2 x3 h3; with_reducible apply SetAt.i4 x1 x2 x3 x h1 h2 h3 hx) | ((with_reducible first | refine Cb.mk ?_ | refine Lz.mk ?_ | (apply AllT.mk; intro x hx)); cbv) | ((with_reducible refine Ob.mk (fun _ => ?_) ?_); rotate_left 1) | (with_reducible first | refine Mg.mk (Exists.intro ?_ (And.intro ?_ ?_)) | rfl | refine Fin.mk ?_ | exact True.intro | refine And.intro ?_ ?_)))
       all_goals first
        | (with_reducible show (∃ _, unr _ _ _ _ _ _); skip)
        | (with_reducible show Goes _ _ _ _; skip)
        | (with_reducible show JoinT _ _ _ _ _ _ _; skip)
        | (with_reducible first | assumption | exact LimE.of3 (by with_reducible assumption) | (refine LimE.eta ?_; first | assumption | exact LimE.of3 (by with_reducible assumption)) | exact lim_c)
        | ((try simp only [vem, veq, ne_eq, cmpI, arI, dvI, shI, SV.den]); (with_reducible first | assumption | exact LimE.of3 (by with_reducible assumption) | (refine LimE.eta ?_; first | assumption | exact LimE.of3 (by with_reducible assumption)) | exact lim_c))
        | (exfalso; ((try dsimp only [Shp.D, Shp.Ds, Shp.dflt] at *); simp only [vem, veq, ne_eq, cmpI, arI, dvI, shI, SV.den, obLt, elemAt, obApp, partL, obPart, lowD, highD, mxOk, convL_self, zerosB, List.length_replicate, vln] at *; (try dsimp only [Shp.D, Shp.Ds, Shp.dflt, Shp.dflts] at *)); omega)
        | (((try dsimp only [Shp.D, Shp.Ds, Shp.dflt] at *); simp only [vem, veq, ne_eq, cmpI, arI, dvI, shI, SV.den, obLt, elemAt, obApp, partL, obPart, lowD, highD, mxOk, convL_self, zerosB, List.length_replicate, vln] at *; (try dsimp only [Shp.D, Shp.Ds, Shp.dflt, Shp.dflts] at *)); (with_reducible first | assumption | exact LimE.of3 (by with_reducible assumption) | (refine LimE.eta ?_; first | assumption | exact LimE.of3 (by with_reducible assumption)) | exact lim_c))
       as_aux_lemma =>
        with_reducible refine JoinT.dp ?_
        cbv
        (repeat' (first | ((with_reducible apply And.intro <;> intro h) <;> (first | with_reducible exact (tf h (by assumption)).elim | with_reducible exact (tf (by assumption) h).elim | cbv)) | ((fail_if_success (with_reducible show JoinT (fun s K => vc _ (Code.region _ _ true) s K) _ _ _ _ _ _)); (with_reducible refine JoinT.left ?_); cbv) | (with_reducible apply SetsK.at) | (with_reducible apply Closed.nil) | (with_reducible apply Closed.cons) | ((with_reducible first | refine AllP.k0 ?_ | (apply AllP.k1; intro x hx) | (apply AllP.k2; intro x hx x hx) | (apply AllP.k3; intro x hx x hx x hx) | (apply AllP.k4; intro x hx x hx x hx x hx)); cbv) | (with_reducible apply SetIn.at) | ((fail_if_success (with_reducible show SetIn _ _ _ [])); (with_reducible apply SetIn.tl)) | (with_reducible apply SetAt.i0) | (with_reducible apply SetAt.i1 x hx) | (rename_i x1 h1; with_reducible apply SetAt.i2 x1 x h1 hx) | (rename_i x1 h1 x2 h2; with_reducible apply SetAt.i3 x1 x2 x h1 h2 hx) | (rename_i x1 h1 x2 h2 x3 h3; with_reducible apply SetAt.i4 x1 x2 x3 x h1 h2 h3 hx) | ((with_reducible first | refine Cb.mk ?_ | refine Lz.mk ?_ | (apply AllT.mk; intro x hx)); cbv) | ((with_reducible refine Ob.mk (fun _ => ?_) ?_); rotate_left 1) | (with_reducible first | refine Mg.mk (Exists.intro ?_ (And.intro ?_ ?_)) | rfl | refine Fin.mk ?_ | exact True.intro | refine And.intro ?_ ?_)))
        all_goals first
         | (with_reducible show (∃ _, unr _ _ _ _ _ _); skip)
         | (with_reducible show Goes _ _ _ _; skip)
         | (with_reducible show JoinT _ _ _ _ _ _ _; skip)
         | (with_reducible first | assumption | exact LimE.of3 (by with_reducible assumption) | (refine LimE.eta ?_; first | assumption | exact LimE.of3 (by with_reducible assumption)) | exact lim_c)
         | ((try simp only [vem, veq, ne_eq, cmpI, arI, dvI, shI, SV.den]); (with_reducible first | assumption | exact LimE.of3 (by with_reducible assumption) | (refine LimE.eta ?_; first | assumption | exact LimE.of3 (by with_reducible assumption)) | exact lim_c))
         | (exfalso; ((try dsimp only [Shp.D, Shp.Ds, Shp.dflt] at *); simp only [vem, veq, ne_eq, cmpI, arI, dvI, shI, SV.den, obLt, elemAt, obApp, partL, obPart, lowD, highD, mxOk, convL_self, zerosB, List.length_replicate, vln] at *; (try dsimp only [Shp.D, Shp.Ds, Shp.dflt, Shp.dflts] at *)); omega)
         | (((try dsimp only [Shp.D, Shp.Ds, Shp.dflt] at *); simp only [vem, veq, ne_eq, cmpI, arI, dvI, shI, SV.den, obLt, elemAt, obApp, partL, obPart, lowD, highD, mxOk, convL_self, zerosB, List.length_replicate, vln] at *; (try dsimp only [Shp.D, Shp.Ds, Shp.dflt, Shp.dflts] at *)); (with_reducible first | assumption | exact LimE.of3 (by with_reducible assumption) | (refine LimE.eta ?_; first | assumption | exact LimE.of3 (by with_reducible assumption)) | exact lim_c))
        as_aux_lemma =>
         with_reducible refine JoinT.dp ?_
         cbv
         (repeat' (first | ((with_reducible apply And.intro <;> intro h) <;> (first | with_reducible exact (tf h (by assumption)).elim | with_reducible exact (tf (by assumption) h).elim | cbv)) | ((fail_if_success (with_reducible show JoinT (fun s K => vc _ (Code.region _ _ true) s K) _ _ _ _ _ _)); (with_reducible refine JoinT.left ?_); cbv) | (with_reducible apply SetsK.at) | (with_reducible apply Closed.nil) | (with_reducible apply Closed.cons) | ((with_reducible first | refine AllP.k0 ?_ | (apply AllP.k1; intro x hx) | (apply AllP.k2; intro x hx x hx) | (apply AllP.k3; intro x hx x hx x hx) | (apply AllP.k4; intro x hx x hx x hx x hx)); cbv) | (with_reducible apply SetIn.at) | ((fail_if_success (with_reducible show SetIn _ _ _ [])); (with_reducible apply SetIn.tl)) | (with_reducible apply SetAt.i0) | (with_reducible apply SetAt.i1 x hx) | (rename_i x1 h1; with_reducible apply SetAt.i2 x1 x h1 hx) | (rename_i x1 h1 x2 h2; with_reducible apply SetAt.i3 x1 x2 x h1 h2 hx) | (rename_i x1 h1 x2 h2 x3 h3; with_reducible apply SetAt.i4 x1 x2 x3 x h1 h2 h3 hx) | ((with_reducible first | refine Cb.mk ?_ | refine Lz.mk ?_ | (apply AllT.mk; intro x hx)); cbv) | ((with_reducible refine Ob.mk (fun _ => ?_) ?_); rotate_left 1) | (with_reducible first | refine Mg.mk (Exists.intro ?_ (And.intro ?_ ?_)) | rfl | refine Fin.mk ?_ | exact True.intro | refine And.intro ?_ ?_)))
         all_goals first
          | (with_reducible show (∃ _, unr _ _ _ _ _ _); skip)
          | (with_reducible show Goes _ _ _ _; skip)
          | (with_reducible show JoinT _ _ _ _ _ _ _; skip)
          | (with_reducible first | assumption | exact LimE.of3 (by with_reducible assumption) | (refine LimE.eta ?_; first | assumption | exact LimE.of3 (by with_reducible assumption)) | exact lim_c)
          | ((try simp only [vem, veq, ne_eq, cmpI, arI, dvI, shI, SV.den]); (with_reducible first | assumption | exact LimE.of3 (by with_reducible assumption) | (refine LimE.eta ?_; first | assumption | exact LimE.of3 (by with_reducible assumption)) | exact lim_c))
          | (exfalso; ((try dsimp only [Shp.D, Shp.Ds, Shp.dflt] at *); simp only [vem, veq, ne_eq, cmpI, arI, dvI, shI, SV.den, obLt, elemAt, obApp, partL, obPart, lowD, highD, mxOk, convL_self, zerosB, List.length_replicate, vln] at *; (try dsimp only [Shp.D, Shp.Ds, Shp.dflt, Shp.dflts] at *)); omega)
          | (((try dsimp only [Shp.D, Shp.Ds, Shp.dflt] at *); simp only [vem, veq, ne_eq, cmpI, arI, dvI, shI, SV.den, obLt, elemAt, obApp, partL, obPart, lowD, highD, mxOk, convL_self, zerosB, List.length_replicate, vln] at *; (try dsimp only [Shp.D, Shp.Ds, Shp.dflt, Shp.dflts] at *)); (with_reducible first | assumption | exact LimE.of3 (by with_reducible assumption) | (refine LimE.eta ?_; first | assumption | exact LimE.of3 (by with_reducible assumption)) | exact lim_c))
         as_aux_lemma =>
          with_reducible refine JoinT.dp ?_
          cbv
          (repeat' (first | ((with_reducible apply And.intro <;> intro h) <;> (first | with_reducible exact (tf h (by assumption)).elim | with_reducible exact (tf (by assumption) h).elim | cbv)) | ((fail_if_success (with_reducible show JoinT (fun s K => vc _ (Code.region _ _ true) s K) _ _ _ _ _ _)); (with_reducible refine JoinT.left ?_); cbv) | (with_reducible apply SetsK.at) | (with_reducible apply Closed.nil) | (with_reducible apply Closed.cons) | ((with_reducible first | refine AllP.k0 ?_ | (apply AllP.k1; intro x hx) | (apply AllP.k2; intro x hx x hx) | (apply AllP.k3; intro x hx x hx x hx) | (apply AllP.k4; intro x hx x hx x hx x hx)); cbv) | (with_reducible apply SetIn.at) | ((fail_if_success (with_reducible show SetIn _ _ _ [])); (with_reducible apply SetIn.tl)) | (with_reducible apply SetAt.i0) | (with_reducible apply SetAt.i1 x hx) | (rename_i x1 h1; with_reducible apply SetAt.i2 x1 x h1 hx) | (rename_i x1 h1 x2 h2; with_reducible apply SetAt.i3 x1 x2 x h1 h2 hx) | (rename_i x1 h1 x2 h2 x3 h3; with_reducible apply SetAt.i4 x1 x2 x3 x h1 h2 h3 hx) | ((with_reducible first | refine Cb.mk ?_ | refine Lz.mk ?_ | (apply AllT.mk; intro x hx)); cbv) | ((with_reducible refine Ob.mk (fun _ => ?_) ?_); rotate_left 1) | (with_reducible first | refine Mg.mk (Exists.intro ?_ (And.intro ?_ ?_)) | rfl | refine Fin.mk ?_ | exact True.intro | refine And.intro ?_ ?_)))
          all_goals first
           | (with_reducible show (∃ _, unr _ _ _ _ _ _); skip)
           | (with_reducible show Goes _ _ _ _; skip)
           | (with_reducible show JoinT _ _ _ _ _ _ _; skip)
           | (with_reducible first | assumption | exact LimE.of3 (by with_reducible assumption) | (refine LimE.eta ?_; first | assumption | exact LimE.of3 (by with_reducible assumption)) | exact lim_c)
           | ((try simp only [vem, veq, ne_eq, cmpI, arI, dvI, shI, SV.den]); (with_reducible first | assumption | exact LimE.of3 (by with_reducible assumption) | (refine LimE.eta ?_; first | assumption | exact LimE.of3 (by with_reducible assumption)) | exact lim_c))
           | (exfalso; ((try dsimp only [Shp.D, Shp.Ds, Shp.dflt] at *); simp only [vem, veq, ne_eq, cmpI, arI, dvI, shI, SV.den, obLt, elemAt, obApp, partL, obPart, lowD, highD, mxOk, convL_self, zerosB, List.length_replicate, vln] at *; (try dsimp only [Shp.D, Shp.Ds, Shp.dflt, Shp.dflts] at *)); omega)
           | (((try dsimp only [Shp.D, Shp.Ds, Shp.dflt] at *); simp only [vem, veq, ne_eq, cmpI, arI, dvI, shI, SV.den, obLt, elemAt, obApp, partL, obPart, lowD, highD, mxOk, convL_self, zerosB, List.length_replicate, vln] at *; (try dsimp only [Shp.D, Shp.Ds, Shp.dflt, Shp.dflts] at *)); (with_reducible first | assumption | exact LimE.of3 (by with_reducible assumption) | (refine LimE.eta ?_; first | assumption | exact LimE.of3 (by with_reducible assumption)) | exact lim_c))
          as_aux_lemma =>
           rename_i y1 g1 y2 g2 y3 g3 y4 g4 y5 g5 y6 g6 y7 g7 y8 g8 y9 g9 y10 g10 y11 g11 y12 g12 y13 g13 y14 g14 y15 g15 y16 g16 y17 g17
           refine ⟨5, ?_⟩
           cbv
           (repeat' (first | ((with_reducible apply And.intro <;> intro h) <;> (first | with_reducible exact (tf h (by assumption)).elim | with_reducible exact (tf (by assumption) h).elim | cbv)) | ((with_reducible show JoinT (fun s K => vc _ (Code.region _ _ true) s K) _ _ _ _ _ _); (with_reducible refine JoinT.dp ?_); cbv) | (with_reducible apply SetsK.at) | (with_reducible apply Closed.nil) | (with_reducible apply Closed.cons) | ((with_reducible first | refine AllP.k0 ?_ | (apply AllP.k1; intro x hx) | (apply AllP.k2; intro x hx x hx) | (apply AllP.k3; intro x hx x hx x hx) | (apply AllP.k4; intro x hx x hx x hx x hx)); cbv) | (with_reducible apply SetIn.at) | ((fail_if_success (with_reducible show SetIn _ _ _ [])); (with_reducible apply SetIn.tl)) | (with_reducible apply SetAt.i0) | (with_reducible apply SetAt.i1 x hx) | (rename_i x1 h1; with_reducible apply SetAt.i2 x1 x h1 hx) | (rename_i x1 h1 x2 h2; with_reducible apply SetAt.i3 x1 x2 x h1 h2 hx) | (rename_i x1 h1 x2 h2 x3 h3; with_reducible apply SetAt.i4 x1 x2 x3 x h1 h2 h3 hx) | ((with_reducible first | refine Cb.mk ?_ | refine Lz.mk ?_ | refine JoinT.left ?_ | (apply AllT.mk; intro x hx)); cbv) | ((with_reducible refine Ob.mk (fun _ => ?_) ?_); rotate_left 1) | (with_reducible first | refine Mg.mk (Exists.intro ?_ (And.intro ?_ ?_)) | rfl | refine Fin.mk ?_ | exact True.intro | refine And.intro ?_ ?_)))
           all_goals first | (with_reducible show (∃ _, unr _ _ _ _ _ _); skip) | (with_reducible show UnrI _ _ _ _ _; skip) | (with_reducible show Goes _ _ _ _; skip) | (with_reducible show JoinT _ _ _ _ _ _ _; skip) | (((try dsimp only [Shp.D, Shp.Ds, Shp.dflt] at *); simp only [vem, veq, ne_eq, cmpI, arI, dvI, shI, SV.den, obLt, elemAt, obApp, partL, obPart, lowD, highD, mxOk, convL_self, zerosB, List.length_replicate, vln] at *; (try dsimp only [Shp.D, Shp.Ds, Shp.dflt, Shp.dflts] at *)); omega)
           with_reducible refine loop_hvZ [] (7 :: 8 :: rangeN 13 34) [3688, 3816] [] (fun z b t y => z 12 = 5 ∧ LimE 2251799813947392 (z 240128, z 240129, z 240130, z 240131, z 240132, ()) ∧ LimE 2251799813947392 (z 248320, z 248321, z 248322, z 248323, z 248324, ()) ∧ valE (z 240128, z 240129, z 240130, z 240131, z 240132, ()) = (if kbit (clampL sc) (z1 13).toNat = 1 then valE y16.1 else valE y12.1) ∧ valE (z 248320, z 248321, z 248322, z 248323, z 248324, ()) = (if kbit (clampL sc) (z1 13).toNat = 1 then valE y12.1 else valE y16.1)) (fun z b t y => (5 - z 12).toNat) (by rfl) (by rfl) (by cbv) (by cbv) ?_ ?_ (fun z4 b4 t4 u4 y4 R4 hP4 hR4 => ?_)
           ·refine EndOk.mk (by cbv) (by cbv) (by cbv; repeat' (first | exact True.intro | exact rfl | with_reducible refine And.intro ?_ ?_)) (by cbv; repeat' (first | exact True.intro | exact rfl | with_reducible refine And.intro ?_ ?_)) (by cbv; repeat' (first | exact True.intro | exact rfl | with_reducible refine And.intro ?_ ?_))
           ·intro zq bq tq yq hUq
            have q12 := hUq.z 12
            cbv at q12
            replace q12 := q12.eq
            simp only [atI, vem, veq, ne_eq, cmpI, arI, dvI, shI, SV.den] at q12
            have q240128 := hUq.z 240128
            cbv at q240128
            replace q240128 := q240128.eq
            simp only [atI, vem, veq, ne_eq, cmpI, arI, dvI, shI, SV.den] at q240128
            have q240129 := hUq.z 240129
            cbv at q240129
            replace q240129 := q240129.eq
            simp only [atI, vem, veq, ne_eq, cmpI, arI, dvI, shI, SV.den] at q240129
            have q240130 := hUq.z 240130
            cbv at q240130
            replace q240130 := q240130.eq
            simp only [atI, vem, veq, ne_eq, cmpI, arI, dvI, shI, SV.den] at q240130
            have q240131 := hUq.z 240131
            cbv at q240131
            replace q240131 := q240131.eq
            simp only [atI, vem, veq, ne_eq, cmpI, arI, dvI, shI, SV.den] at q240131
            have q240132 := hUq.z 240132
            cbv at q240132
            replace q240132 := q240132.eq
            simp only [atI, vem, veq, ne_eq, cmpI, arI, dvI, shI, SV.den] at q240132
            have q248320 := hUq.z 248320
            cbv at q248320
            replace q248320 := q248320.eq
            simp only [atI, vem, veq, ne_eq, cmpI, arI, dvI, shI, SV.den] at q248320
            have q248321 := hUq.z 248321
            cbv at q248321
            replace q248321 := q248321.eq
            simp only [atI, vem, veq, ne_eq, cmpI, arI, dvI, shI, SV.den] at q248321
            have q248322 := hUq.z 248322
            cbv at q248322
            replace q248322 := q248322.eq
            simp only [atI, vem, veq, ne_eq, cmpI, arI, dvI, shI, SV.den] at q248322
            have q248323 := hUq.z 248323
            cbv at q248323
            replace q248323 := q248323.eq
            simp only [atI, vem, veq, ne_eq, cmpI, arI, dvI, shI, SV.den] at q248323
            have q248324 := hUq.z 248324
            cbv at q248324
            replace q248324 := q248324.eq
            simp only [atI, vem, veq, ne_eq, cmpI, arI, dvI, shI, SV.den] at q248324
            clear hUq
            try dsimp only [Shp.D, Shp.Ds, Shp.dflt] at *
            try simp only [vem, veq, ne_eq, cmpI, arI, dvI, shI, SV.den, convL_self] at *
            exact ⟨by omega, sw_cut (t_ok sc (by omega) (by omega) p2) (kbit01 _ _) g12.1.1 g16.1.1 q240128 q240129 q240130 q240131 q240132 q248320 q248321 q248322 q248323 q248324⟩
           obtain ⟨a4, b4, c4, d4, f4⟩ := hP4
           as_aux_lemma =>
            cbv
            (repeat' (first | ((with_reducible apply And.intro <;> intro h) <;> (first | with_reducible exact (tf h (by assumption)).elim | with_reducible exact (tf (by assumption) h).elim | cbv)) | ((with_reducible show JoinT (fun s K => vc _ (Code.region _ _ true) s K) _ _ _ _ _ _); (with_reducible refine JoinT.dp ?_); cbv) | (with_reducible apply SetsK.at) | (with_reducible apply Closed.nil) | (with_reducible apply Closed.cons) | ((with_reducible first | refine AllP.k0 ?_ | (apply AllP.k1; intro x hx) | (apply AllP.k2; intro x hx x hx) | (apply AllP.k3; intro x hx x hx x hx) | (apply AllP.k4; intro x hx x hx x hx x hx)); cbv) | (with_reducible apply SetIn.at) | ((fail_if_success (with_reducible show SetIn _ _ _ [])); (with_reducible apply SetIn.tl)) | (with_reducible apply SetAt.i0) | (with_reducible apply SetAt.i1 x hx) | (rename_i x1 h1; with_reducible apply SetAt.i2 x1 x h1 hx) | (rename_i x1 h1 x2 h2; with_reducible apply SetAt.i3 x1 x2 x h1 h2 hx) | (rename_i x1 h1 x2 h2 x3 h3; with_reducible apply SetAt.i4 x1 x2 x3 x h1 h2 h3 hx) | ((with_reducible first | refine Cb.mk ?_ | refine Lz.mk ?_ | refine JoinT.left ?_ | (apply AllT.mk; intro x hx)); cbv) | ((with_reducible refine Ob.mk (fun _ => ?_) ?_); rotate_left 1) | (with_reducible first | refine Mg.mk (Exists.intro ?_ (And.intro ?_ ?_)) | rfl | refine Fin.mk ?_ | exact True.intro | refine And.intro ?_ ?_)))
            all_goals first
             | (with_reducible show (∃ _, unr _ _ _ _ _ _); skip)
             | (with_reducible show Goes _ _ _ _; skip)
             | (with_reducible show JoinT _ _ _ _ _ _ _; skip)
             | (with_reducible first | assumption | exact LimE.of3 (by with_reducible assumption) | (refine LimE.eta ?_; first | assumption | exact LimE.of3 (by with_reducible assumption)) | exact lim_c)
             | ((try simp only [vem, veq, ne_eq, cmpI, arI, dvI, shI, SV.den]); (with_reducible first | assumption | exact LimE.of3 (by with_reducible assumption) | (refine LimE.eta ?_; first | assumption | exact LimE.of3 (by with_reducible assumption)) | exact lim_c))
             | (exfalso; ((try dsimp only [Shp.D, Shp.Ds, Shp.dflt] at *); simp only [vem, veq, ne_eq, cmpI, arI, dvI, shI, SV.den, obLt, elemAt, obApp, partL, obPart, lowD, highD, mxOk, convL_self, zerosB, List.length_replicate, vln] at *; (try dsimp only [Shp.D, Shp.Ds, Shp.dflt, Shp.dflts] at *)); omega)
             | (((try dsimp only [Shp.D, Shp.Ds, Shp.dflt] at *); simp only [vem, veq, ne_eq, cmpI, arI, dvI, shI, SV.den, obLt, elemAt, obApp, partL, obPart, lowD, highD, mxOk, convL_self, zerosB, List.length_replicate, vln] at *; (try dsimp only [Shp.D, Shp.Ds, Shp.dflt, Shp.dflts] at *)); (with_reducible first | assumption | exact LimE.of3 (by with_reducible assumption) | (refine LimE.eta ?_; first | assumption | exact LimE.of3 (by with_reducible assumption)) | exact lim_c))
            refine ⟨5, ?_⟩
            cbv
            (repeat' (first | ((with_reducible apply And.intro <;> intro h) <;> (first | with_reducible exact (tf h (by assumption)).elim | with_reducible exact (tf (by assumption) h).elim | cbv)) | ((with_reducible show JoinT (fun s K => vc _ (Code.region _ _ true) s K) _ _ _ _ _ _); (with_reducible refine JoinT.dp ?_); cbv) | (with_reducible apply SetsK.at) | (with_reducible apply Closed.nil) | (with_reducible apply Closed.cons) | ((with_reducible first | refine AllP.k0 ?_ | (apply AllP.k1; intro x hx) | (apply AllP.k2; intro x hx x hx) | (apply AllP.k3; intro x hx x hx x hx) | (apply AllP.k4; intro x hx x hx x hx x hx)); cbv) | (with_reducible apply SetIn.at) | ((fail_if_success (with_reducible show SetIn _ _ _ [])); (with_reducible apply SetIn.tl)) | (with_reducible apply SetAt.i0) | (with_reducible apply SetAt.i1 x hx) | (rename_i x1 h1; with_reducible apply SetAt.i2 x1 x h1 hx) | (rename_i x1 h1 x2 h2; with_reducible apply SetAt.i3 x1 x2 x h1 h2 hx) | (rename_i x1 h1 x2 h2 x3 h3; with_reducible apply SetAt.i4 x1 x2 x3 x h1 h2 h3 hx) | ((with_reducible first | refine Cb.mk ?_ | refine Lz.mk ?_ | refine JoinT.left ?_ | (apply AllT.mk; intro x hx)); cbv) | ((with_reducible refine Ob.mk (fun _ => ?_) ?_); rotate_left 1) | (with_reducible first | refine Mg.mk (Exists.intro ?_ (And.intro ?_ ?_)) | rfl | refine Fin.mk ?_ | exact True.intro | refine And.intro ?_ ?_)))
            all_goals first | (with_reducible show (∃ _, unr _ _ _ _ _ _); skip) | (with_reducible show UnrI _ _ _ _ _; skip) | (with_reducible show Goes _ _ _ _; skip) | (with_reducible show JoinT _ _ _ _ _ _ _; skip) | (((try dsimp only [Shp.D, Shp.Ds, Shp.dflt] at *); simp only [vem, veq, ne_eq, cmpI, arI, dvI, shI, SV.den, obLt, elemAt, obApp, partL, obPart, lowD, highD, mxOk, convL_self, zerosB, List.length_replicate, vln] at *; (try dsimp only [Shp.D, Shp.Ds, Shp.dflt, Shp.dflts] at *)); omega)
            with_reducible refine loop_hvZ [] (7 :: 8 :: rangeN 13 34) [3752, 3880] [] (fun z b t y => z 12 = 5 ∧ LimE 2251799813947392 (z 244224, z 244225, z 244226, z 244227, z 244228, ()) ∧ LimE 2251799813947392 (z 252416, z 252417, z 252418, z 252419, z 252420, ()) ∧ valE (z 244224, z 244225, z 244226, z 244227, z 244228, ()) = (if kbit (clampL sc) (z1 13).toNat = 1 then valE x.1 else valE y15.1) ∧ valE (z 252416, z 252417, z 252418, z 252419, z 252420, ()) = (if kbit (clampL sc) (z1 13).toNat = 1 then valE y15.1 else valE x.1)) (fun z b t y => (5 - z 12).toNat) (by rfl) (by rfl) (by cbv) (by cbv) ?_ ?_ (fun z5 b5 t5 u5 y5 R5 hP5 hR5 => ?_)
            ·refine EndOk.mk (by cbv) (by cbv) (by cbv; repeat' (first | exact True.intro | exact rfl | with_reducible refine And.intro ?_ ?_)) (by cbv; repeat' (first | exact True.intro | exact rfl | with_reducible refine And.intro ?_ ?_)) (by cbv; repeat' (first | exact True.intro | exact rfl | with_reducible refine And.intro ?_ ?_))
            ·intro zq bq tq yq hUq
             have q12 := hUq.z 12
             cbv at q12
             replace q12 := q12.eq
             simp only [atI, vem, veq, ne_eq, cmpI, arI, dvI, shI, SV.den] at q12
             have q244224 := hUq.z 244224
             cbv at q244224
             replace q244224 := q244224.eq
             simp only [atI, vem, veq, ne_eq, cmpI, arI, dvI, shI, SV.den] at q244224
             have q244225 := hUq.z 244225
             cbv at q244225
             replace q244225 := q244225.eq
             simp only [atI, vem, veq, ne_eq, cmpI, arI, dvI, shI, SV.den] at q244225
             have q244226 := hUq.z 244226
             cbv at q244226
             replace q244226 := q244226.eq
             simp only [atI, vem, veq, ne_eq, cmpI, arI, dvI, shI, SV.den] at q244226
             have q244227 := hUq.z 244227
             cbv at q244227
             replace q244227 := q244227.eq
             simp only [atI, vem, veq, ne_eq, cmpI, arI, dvI, shI, SV.den] at q244227
             have q244228 := hUq.z 244228
             cbv at q244228
             replace q244228 := q244228.eq
             simp only [atI, vem, veq, ne_eq, cmpI, arI, dvI, shI, SV.den] at q244228
             have q252416 := hUq.z 252416
             cbv at q252416
             replace q252416 := q252416.eq
             simp only [atI, vem, veq, ne_eq, cmpI, arI, dvI, shI, SV.den] at q252416
             have q252417 := hUq.z 252417
             cbv at q252417
             replace q252417 := q252417.eq
             simp only [atI, vem, veq, ne_eq, cmpI, arI, dvI, shI, SV.den] at q252417
             have q252418 := hUq.z 252418
             cbv at q252418
             replace q252418 := q252418.eq
             simp only [atI, vem, veq, ne_eq, cmpI, arI, dvI, shI, SV.den] at q252418
             have q252419 := hUq.z 252419
             cbv at q252419
             replace q252419 := q252419.eq
             simp only [atI, vem, veq, ne_eq, cmpI, arI, dvI, shI, SV.den] at q252419
             have q252420 := hUq.z 252420
             cbv at q252420
             replace q252420 := q252420.eq
             simp only [atI, vem, veq, ne_eq, cmpI, arI, dvI, shI, SV.den] at q252420
             clear hUq
             try dsimp only [Shp.D, Shp.Ds, Shp.dflt] at *
             try simp only [vem, veq, ne_eq, cmpI, arI, dvI, shI, SV.den, convL_self] at *
             exact ⟨by omega, sw_cut (t_ok sc (by omega) (by omega) p2) (kbit01 _ _) g15.1.1 hx.1.1 q244224 q244225 q244226 q244227 q244228 q252416 q252417 q252418 q252419 q252420⟩
            obtain ⟨a5, b5, c5, d5, f5⟩ := hP5
            as_aux_lemma =>
             cbv
             (repeat' (first | ((with_reducible apply And.intro <;> intro h) <;> (first | with_reducible exact (tf h (by assumption)).elim | with_reducible exact (tf (by assumption) h).elim | cbv)) | ((with_reducible show JoinT (fun s K => vc _ (Code.region _ _ true) s K) _ _ _ _ _ _); (with_reducible refine JoinT.dp ?_); cbv) | (with_reducible apply SetsK.at) | (with_reducible apply Closed.nil) | (with_reducible apply Closed.cons) | ((with_reducible first | refine AllP.k0 ?_ | (apply AllP.k1; intro x hx) | (apply AllP.k2; intro x hx x hx) | (apply AllP.k3; intro x hx x hx x hx) | (apply AllP.k4; intro x hx x hx x hx x hx)); cbv) | (with_reducible apply SetIn.at) | ((fail_if_success (with_reducible show SetIn _ _ _ [])); (with_reducible apply SetIn.tl)) | (with_reducible apply SetAt.i0) | (with_reducible apply SetAt.i1 x hx) | (rename_i x1 h1; with_reducible apply SetAt.i2 x1 x h1 hx) | (rename_i x1 h1 x2 h2; with_reducible apply SetAt.i3 x1 x2 x h1 h2 hx) | (rename_i x1 h1 x2 h2 x3 h3; with_reducible apply SetAt.i4 x1 x2 x3 x h1 h2 h3 hx) | ((with_reducible first | refine Cb.mk ?_ | refine Lz.mk ?_ | refine JoinT.left ?_ | (apply AllT.mk; intro x hx)); cbv) | ((with_reducible refine Ob.mk (fun _ => ?_) ?_); rotate_left 1) | (with_reducible first | refine Mg.mk (Exists.intro ?_ (And.intro ?_ ?_)) | rfl | refine Fin.mk ?_ | exact True.intro | refine And.intro ?_ ?_)))
             all_goals first
              | (exfalso; ((try dsimp only [Shp.D, Shp.Ds, Shp.dflt] at *); simp only [vem, veq, ne_eq, cmpI, arI, dvI, shI, SV.den, obLt, elemAt, obApp, partL, obPart, lowD, highD, mxOk, convL_self, zerosB, List.length_replicate, vln] at *; (try dsimp only [Shp.D, Shp.Ds, Shp.dflt, Shp.dflts] at *)); omega)
              | ((((with_reducible refine hR1 _ ?_ (fun zq bq tq yq hUq => ?_)); (focus (refine EndOk.mk (by cbv) (by cbv) (by cbv; repeat' (first | exact True.intro | exact rfl | with_reducible refine And.intro ?_ ?_)) (by cbv; repeat' (first | exact True.intro | exact rfl | with_reducible refine And.intro ?_ ?_)) (by cbv; repeat' (first | exact True.intro | exact rfl | with_reducible refine And.intro ?_ ?_)))); (have q13 := hUq.z 13); (cbv at q13); (replace q13 := q13.eq); (simp only [atI, vem, veq, ne_eq, cmpI, arI, dvI, shI, SV.den] at q13); (have q240128 := hUq.z 240128); (cbv at q240128); (replace q240128 := q240128.eq); (simp only [atI, vem, veq, ne_eq, cmpI, arI, dvI, shI, SV.den] at q240128); (have q240129 := hUq.z 240129); (cbv at q240129); (replace q240129 := q240129.eq); (simp only [atI, vem, veq, ne_eq, cmpI, arI, dvI, shI, SV.den] at q240129); (have q240130 := hUq.z 240130); (cbv at q240130); (replace q240130 := q240130.eq); (simp only [atI, vem, veq, ne_eq, cmpI, arI, dvI, shI, SV.den] at q240130); (have q240131 := hUq.z 240131); (cbv at q240131); (replace q240131 := q240131.eq); (simp only [atI, vem, veq, ne_eq, cmpI, arI, dvI, shI, SV.den] at q240131); (have q240132 := hUq.z 240132); (cbv at q240132); (replace q240132 := q240132.eq); (simp only [atI, vem, veq, ne_eq, cmpI, arI, dvI, shI, SV.den] at q240132); (have q244224 := hUq.z 244224); (cbv at q244224); (replace q244224 := q244224.eq); (simp only [atI, vem, veq, ne_eq, cmpI, arI, dvI, shI, SV.den] at q244224); (have q244225 := hUq.z 244225); (cbv at q244225); (replace q244225 := q244225.eq); (simp only [atI, vem, veq, ne_eq, cmpI, arI, dvI, shI, SV.den] at q244225); (have q244226 := hUq.z 244226); (cbv at q244226); (replace q244226 := q244226.eq); (simp only [atI, vem, veq, ne_eq, cmpI, arI, dvI, shI, SV.den] at q244226); (have q244227 := hUq.z 244227); (cbv at q244227); (replace q244227 := q244227.eq); (simp only [atI, vem, veq, ne_eq, cmpI, arI, dvI, shI, SV.den] at q244227); (have q244228 := hUq.z 244228); (cbv at q244228); (replace q244228 := q244228.eq); (simp only [atI, vem, veq, ne_eq, cmpI, arI, dvI, shI, SV.den] at q244228); (have q248320 := hUq.z 248320); (cbv at q248320); (replace q248320 := q248320.eq); (simp only [atI, vem, veq, ne_eq, cmpI, arI, dvI, shI, SV.den] at q248320); (have q248321 := hUq.z 248321); (cbv at q248321); (replace q248321 := q248321.eq); (simp only [atI, vem, veq, ne_eq, cmpI, arI, dvI, shI, SV.den] at q248321); (have q248322 := hUq.z 248322); (cbv at q248322); (replace q248322 := q248322.eq); (simp only [atI, vem, veq, ne_eq, cmpI, arI, dvI, shI, SV.den] at q248322); (have q248323 := hUq.z 248323); (cbv at q248323); (replace q248323 := q248323.eq); (simp only [atI, vem, veq, ne_eq, cmpI, arI, dvI, shI, SV.den] at q248323); (have q248324 := hUq.z 248324); (cbv at q248324); (replace q248324 := q248324.eq); (simp only [atI, vem, veq, ne_eq, cmpI, arI, dvI, shI, SV.den] at q248324); (have q252416 := hUq.z 252416); (cbv at q252416); (replace q252416 := q252416.eq); (simp only [atI, vem, veq, ne_eq, cmpI, arI, dvI, shI, SV.den] at q252416); (have q252417 := hUq.z 252417); (cbv at q252417); (replace q252417 := q252417.eq); (simp only [atI, vem, veq, ne_eq, cmpI, arI, dvI, shI, SV.den] at q252417); (have q252418 := hUq.z 252418); (cbv at q252418); (replace q252418 := q252418.eq); (simp only [atI, vem, veq, ne_eq, cmpI, arI, dvI, shI, SV.den] at q252418); (have q252419 := hUq.z 252419); (cbv at q252419); (replace q252419 := q252419.eq); (simp only [atI, vem, veq, ne_eq, cmpI, arI, dvI, shI, SV.den] at q252419); (have q252420 := hUq.z 252420); (cbv at q252420); (replace q252420 := q252420.eq); (simp only [atI, vem, veq, ne_eq, cmpI, arI, dvI, shI, SV.den] at q252420); (clear hUq hR1); (try dsimp only [Shp.D, Shp.Ds, Shp.dflt] at *); (try simp only [vem, veq, ne_eq, cmpI, arI, dvI, shI, SV.den, elemAt, convL_self] at *); (try dsimp only [Shp.D, Shp.Ds, Shp.dflt, Shp.dflts] at *))); (try ((try dsimp only [Shp.D, Shp.Ds, Shp.dflt] at *); simp only [vem, veq, ne_eq, cmpI, arI, dvI, shI, SV.den, obLt, elemAt, obApp, partL, obPart, lowD, highD, mxOk, convL_self, zerosB, List.length_replicate, vln] at *; (try dsimp only [Shp.D, Shp.Ds, Shp.dflt, Shp.dflts] at *))); (rw [← q240128, ← q240129, ← q240130, ← q240131, ← q240132, ← q244224, ← q244225, ← q244226, ← q244227, ← q244228, ← q248320, ← q248321, ← q248322, ← q248323, ← q248324, ← q252416, ← q252417, ← q252418, ← q252419, ← q252420]); (have hs := lad_step (V := valE e1.1) (kbit01 (clampL sc) (z1 13).toNat) d2 f2 d3 f3 g1.1.2 g2.1.2 g3.1.2 g4.1.2 g5.1.2 g6.1.2 g7.1.2 g8.1.2 g9.1.2 g10.1.2 g11.1.2 g12.1.2 g13.1.2 g14.1.2 g15.1.2 g16.1.2 g17.1.2 hx.1.2 d4 f4 d5 f5); (obtain ⟨r1, r2, r3, r4⟩ := lad_go p7 (by omega) p2 (show zq 13 = z1 13 - 1 by omega) hs); exact ⟨⟨r1, r2, b4, b5, c4, c5, r3⟩, r4⟩)
end Go.Proofs.Ytihnagafldpbnaa.V
