/- Curve: element.invert. -/
import Derived.Test.YtihnagafldpbnaaVUj
set_option linter.unusedVariables false
set_option linter.unusedSimpArgs false
namespace Go.Proofs.Ytihnagafldpbnaa.V
open Go.RowKit
set_option maxHeartbeats 80000000
set_option maxRecDepth 100000
theorem inv_a {a r q s : ElT} {z zq v : Int} (h : powR (valE a % 57896044618658097711785492504343953926634992332820282019728792003956564819949) (z + 1).toNat (valE r % 57896044618658097711785492504343953926634992332820282019728792003956564819949) = v) (h0 : -1 ≤ z) (h9 : 0 ≤ z) (hz : z ≤ 254) (h2 : ¬ (z = 2 ∨ z = 4)) (hq : LimE 2251799813947392 q ∧ Cg (valE q) (valE r * valE r)) (hs : LimE 2251799813947392 s ∧ Cg (valE s) (valE q * valE a)) (e : zq = z - 1) :
    (-1 ≤ zq ∧ zq ≤ 254 ∧ powR (valE a % 57896044618658097711785492504343953926634992332820282019728792003956564819949) (zq + 1).toNat (valE s % 57896044618658097711785492504343953926634992332820282019728792003956564819949) = v ∧ LimE 2251799813947392 s) ∧ (zq + 1).toNat < (z + 1).toNat := by
 refine ⟨⟨by omega, by omega, ?_, hs.1⟩, by omega⟩
 rw [← h, show (z + 1).toNat = (zq + 1).toNat + 1 by omega, powR, show (((zq + 1).toNat : Nat) : Int) = z by omega]
 unfold powS
 rw [if_neg h2, Cg.prd hs.2 (hq.2.sqr rfl) rfl]
theorem inv_b {a r q : ElT} {z zq v : Int} (h : powR (valE a % 57896044618658097711785492504343953926634992332820282019728792003956564819949) (z + 1).toNat (valE r % 57896044618658097711785492504343953926634992332820282019728792003956564819949) = v) (h0 : -1 ≤ z) (h9 : 0 ≤ z) (hz : z ≤ 254) (h2 : z = 2 ∨ z = 4) (hq : LimE 2251799813947392 q ∧ Cg (valE q) (valE r * valE r)) (e : zq = z - 1) :
    (-1 ≤ zq ∧ zq ≤ 254 ∧ powR (valE a % 57896044618658097711785492504343953926634992332820282019728792003956564819949) (zq + 1).toNat (valE q % 57896044618658097711785492504343953926634992332820282019728792003956564819949) = v ∧ LimE 2251799813947392 q) ∧ (zq + 1).toNat < (z + 1).toNat := by
 refine ⟨⟨by omega, by omega, ?_, hq.1⟩, by omega⟩
 rw [← h, show (z + 1).toNat = (zq + 1).toNat + 1 by omega, powR, show (((zq + 1).toNat : Nat) : Int) = z by omega]
 unfold powS
 rw [if_pos h2, hq.2.sqr rfl]
def uiC_t : SpecT := lf0 21 (mulV)
def uiC : Cx := ⟨tt, qt, bt, st, uiC_t, 0, 1000000000000000, fun _ => none, false, CxE.no, []⟩
theorem uiC_si {E : Env} (h : E.ok) : SpecsOk Try.prog E (CxE.no) uiC_t (fun _ => none) := ⟨(lf0_ok (.inl (mul_v h))), noI_ok _ _ _⟩
theorem uiC_x {E : Env} (h : E.ok) : CxEOk Try.prog E (CxE.no) := CxE.no_ok _ _
theorem uiC_cx (E : Env) (h : E.ok) (h1 : E.lo = 0) (h2 : E.hi = 1000000000000000) : Cx.ok uiC Try.prog E := ⟨tt_ok, qt_ok, bt_ok, uiC_si h, h, h1, h2, mixed_ok, uiC_x h⟩
theorem uiC_from (lo hi : Nat) (E : Env) (h : E.ok) (h1 : E.lo = lo) (h2 : E.hi = hi) : Cx.ok (Cx.from uiC lo hi) Try.prog E := ⟨tt_ok, qt_ok, bt_ok, uiC_si h, h, h1, h2, mixed_ok, uiC_x h⟩
theorem inv_fn : hasFn Try.prog 22 := ⟨_, Try.func22, by rfl, by rfl⟩
abbrev invV : Spec := fnSpec [elE] [elE] [] (fun (x : Shp.Ds [elE]) => LimE 2251799813947392 x.1) fun (x : Shp.Ds [elE]) (y : Shp.Ds [elE]) => LimE 2251799813947392 y.1 ∧ valE y.1 % 57896044618658097711785492504343953926634992332820282019728792003956564819949 = powA (valE x.1 % 57896044618658097711785492504343953926634992332820282019728792003956564819949)
theorem inv_v {E : Env} (hE : E.ok) : SpecOk Try.prog E 22 invV := by
 refine spec_of_vc (C := uiC) inv_fn Try.func22 (by kernel_rfl) uiC_cx (fun x hl hx => ?_) hE
 obtain ⟨⟨a0, a1, a2, a3, a4, ⟨⟩⟩, ⟨⟩⟩ := x
 have ha : LimE 2251799813947392 (a0, a1, a2, a3, a4, ()) := hx
 cbv
 (repeat' (first | ((with_reducible refine And.intro (fun h => ?_) (fun h => ?_)) <;> (first | with_reducible exact (tf h (by assumption)).elim | with_reducible exact (tf (by assumption) h).elim | cbv)) | ((with_reducible show JoinT (fun s K => vc _ (Code.region _ _ true) s K) _ _ _ _ _ _); (with_reducible apply JoinT.mg2); (focus (cbv; (repeat' (first | ((with_reducible refine And.intro (fun h => ?_) (fun h => ?_)) <;> (first | with_reducible exact (tf h (by assumption)).elim | with_reducible exact (tf (by assumption) h).elim | cbv)) | ((with_reducible first | refine Cb.mk ?_ | refine Lz.mk ?_ | refine JoinT.left ?_ | refine AllT.mk (fun x hx => ?_)); cbv) | ((with_reducible refine Ob.mk (fun _ => ?_) ?_); rotate_left 1) | (with_reducible first | refine Mg.mk (Exists.intro ?_ (And.intro ?_ ?_)) | rfl | refine Fin.mk ?_ | exact True.intro | refine And.intro ?_ ?_))); (all_goals (try (have du : Unit := (); have dv : Unit := (); first | exact Goes.self (Ex2.mk ⟨dv, du, trivial, trivial, rfl⟩) | exact Goes.self (Ex2.mk ⟨x, du, hx, trivial, rfl⟩) | (rename_i xa hxa; exact Goes.self (Ex2.mk ⟨xa, x, hxa, hx, rfl⟩))))); (all_goals (fail_if_success (with_reducible first | show Goes _ _ _ _ | show (∃ _, unr _ _ _ _ _ _))))))) | ((with_reducible first | refine Cb.mk ?_ | refine Lz.mk ?_ | refine JoinT.left ?_ | refine AllT.mk (fun x hx => ?_)); cbv) | ((with_reducible refine Ob.mk (fun _ => ?_) ?_); rotate_left 1) | (with_reducible first | refine Mg.mk (Exists.intro ?_ (And.intro ?_ ?_)) | rfl | refine Fin.mk ?_ | exact True.intro | refine And.intro ?_ ?_)))
 all_goals first | (with_reducible show (∃ _, unr _ _ _ _ _ _); skip) | (with_reducible show UnrI _ _ _ _ _; skip) | (with_reducible show Goes _ _ _ _; skip) | (with_reducible show JoinT _ _ _ _ _ _ _; skip) | (first | ((try dsimp only [Shp.D, Shp.Ds, Shp.dflt] at *); simp only [vem, veq, ne_eq, cmpI, arI, dvI, shI, SV.den, obLt, elemAt, obApp, partL, obPart, lowD, highD, mxOk, convL_self, zerosB, List.length_replicate, vln] at *; (try dsimp only [Shp.D, Shp.Ds, Shp.dflt, Shp.dflts] at *); done) | ((try dsimp only [Shp.D, Shp.Ds, Shp.dflt] at *); simp only [vem, veq, ne_eq, cmpI, arI, dvI, shI, SV.den, obLt, elemAt, obApp, partL, obPart, lowD, highD, mxOk, convL_self, zerosB, List.length_replicate, vln] at *; (try dsimp only [Shp.D, Shp.Ds, Shp.dflt, Shp.dflts] at *); omega) | (try ((try dsimp only [Shp.D, Shp.Ds, Shp.dflt] at *); simp only [vem, veq, ne_eq, cmpI, arI, dvI, shI, SV.den, obLt, elemAt, obApp, partL, obPart, lowD, highD, mxOk, convL_self, zerosB, List.length_replicate, vln] at *; (try dsimp only [Shp.D, Shp.Ds, Shp.dflt, Shp.dflts] at *))))
 with_reducible refine loop_hv [] (rangeN 5 18) [1192] [] (fun z b t y => -1 ≤ z 4 ∧ z 4 ≤ 254 ∧ powR (valE (a0, a1, a2, a3, a4, ()) % 57896044618658097711785492504343953926634992332820282019728792003956564819949) (z 4 + 1).toNat (valE (z 80384, z 80385, z 80386, z 80387, z 80388, ()) % 57896044618658097711785492504343953926634992332820282019728792003956564819949) = powA (valE (a0, a1, a2, a3, a4, ()) % 57896044618658097711785492504343953926634992332820282019728792003956564819949) ∧ LimE 2251799813947392 (z 80384, z 80385, z 80386, z 80387, z 80388, ())) (fun z b t y => (z 4 + 1).toNat) (by cbv) (by cbv) ?_ ?_ (fun z1 b1 t1 u1 y1 R1 hP1 hR1 => ?_)
 ·refine EndOk.mk (by cbv) (by cbv) (by cbv; repeat' (first | exact True.intro | exact rfl | with_reducible refine And.intro ?_ ?_)) (by cbv; repeat' (first | exact True.intro | exact rfl | with_reducible refine And.intro ?_ ?_)) (by cbv; repeat' (first | exact True.intro | exact rfl | with_reducible refine And.intro ?_ ?_))
 ·intro zq bq tq yq hUq
  have q4 := hUq.z 4
  cbv at q4
  replace q4 := q4.eq
  simp only [atI, vem, veq, ne_eq, cmpI, arI, dvI, shI, SV.den] at q4
  have q80384 := hUq.z 80384
  cbv at q80384
  replace q80384 := q80384.eq
  simp only [atI, vem, veq, ne_eq, cmpI, arI, dvI, shI, SV.den] at q80384
  have q80385 := hUq.z 80385
  cbv at q80385
  replace q80385 := q80385.eq
  simp only [atI, vem, veq, ne_eq, cmpI, arI, dvI, shI, SV.den] at q80385
  have q80386 := hUq.z 80386
  cbv at q80386
  replace q80386 := q80386.eq
  simp only [atI, vem, veq, ne_eq, cmpI, arI, dvI, shI, SV.den] at q80386
  have q80387 := hUq.z 80387
  cbv at q80387
  replace q80387 := q80387.eq
  simp only [atI, vem, veq, ne_eq, cmpI, arI, dvI, shI, SV.den] at q80387
  have q80388 := hUq.z 80388
  cbv at q80388
  replace q80388 := q80388.eq
  simp only [atI, vem, veq, ne_eq, cmpI, arI, dvI, shI, SV.den] at q80388
  clear hUq
  try dsimp only [Shp.D, Shp.Ds, Shp.dflt] at *
  try simp only [vem, veq, ne_eq, cmpI, arI, dvI, shI, SV.den, convL_self] at *
  rw [← q4, ← q80384, ← q80385, ← q80386, ← q80387, ← q80388]
  exact ⟨by omega, by omega, rfl, ⟨by decide, by decide, by decide, by decide, by decide⟩⟩
 obtain ⟨p1, p2, p3, p4⟩ := hP1
 cbv
 (repeat' (first | ((with_reducible refine And.intro (fun h => ?_) (fun h => ?_)) <;> (first | with_reducible exact (tf h (by assumption)).elim | with_reducible exact (tf (by assumption) h).elim | cbv)) | ((with_reducible show JoinT (fun s K => vc _ (Code.region _ _ true) s K) _ _ _ _ _ _); (with_reducible apply JoinT.mg2); (focus (cbv; (repeat' (first | ((with_reducible refine And.intro (fun h => ?_) (fun h => ?_)) <;> (first | with_reducible exact (tf h (by assumption)).elim | with_reducible exact (tf (by assumption) h).elim | cbv)) | ((with_reducible first | refine Cb.mk ?_ | refine Lz.mk ?_ | refine JoinT.left ?_ | refine AllT.mk (fun x hx => ?_)); cbv) | ((with_reducible refine Ob.mk (fun _ => ?_) ?_); rotate_left 1) | (with_reducible first | refine Mg.mk (Exists.intro ?_ (And.intro ?_ ?_)) | rfl | refine Fin.mk ?_ | exact True.intro | refine And.intro ?_ ?_))); (all_goals (try (have du : Unit := (); have dv : Unit := (); first | exact Goes.self (Ex2.mk ⟨dv, du, trivial, trivial, rfl⟩) | exact Goes.self (Ex2.mk ⟨x, du, hx, trivial, rfl⟩) | (rename_i xa hxa; exact Goes.self (Ex2.mk ⟨xa, x, hxa, hx, rfl⟩))))); (all_goals (fail_if_success (with_reducible first | show Goes _ _ _ _ | show (∃ _, unr _ _ _ _ _ _))))))) | ((with_reducible first | refine Cb.mk ?_ | refine Lz.mk ?_ | refine JoinT.left ?_ | refine AllT.mk (fun x hx => ?_)); cbv) | ((with_reducible refine Ob.mk (fun _ => ?_) ?_); rotate_left 1) | (with_reducible first | refine Mg.mk (Exists.intro ?_ (And.intro ?_ ?_)) | rfl | refine Fin.mk ?_ | exact True.intro | refine And.intro ?_ ?_)))
 all_goals first | (with_reducible show (∃ _, unr _ _ _ _ _ _); skip) | (with_reducible show UnrI _ _ _ _ _; skip) | (with_reducible show Goes _ _ _ _; skip) | (with_reducible show JoinT _ _ _ _ _ _ _; skip) | (first | ((try dsimp only [Shp.D, Shp.Ds, Shp.dflt] at *); simp only [vem, veq, ne_eq, cmpI, arI, dvI, shI, SV.den, obLt, elemAt, obApp, partL, obPart, lowD, highD, mxOk, convL_self, zerosB, List.length_replicate, vln] at *; (try dsimp only [Shp.D, Shp.Ds, Shp.dflt, Shp.dflts] at *); done) | ((try dsimp only [Shp.D, Shp.Ds, Shp.dflt] at *); simp only [vem, veq, ne_eq, cmpI, arI, dvI, shI, SV.den, obLt, elemAt, obApp, partL, obPart, lowD, highD, mxOk, convL_self, zerosB, List.length_replicate, vln] at *; (try dsimp only [Shp.D, Shp.Ds, Shp.dflt, Shp.dflts] at *); omega) | ((try dsimp only [Shp.D, Shp.Ds, Shp.dflt] at *); simp only [vem, veq, ne_eq, cmpI, arI, dvI, shI, SV.den, obLt, elemAt, obApp, partL, obPart, lowD, highD, mxOk, convL_self, zerosB, List.length_replicate, vln] at *; (try dsimp only [Shp.D, Shp.Ds, Shp.dflt, Shp.dflts] at *); exact ⟨p4, p4⟩) | ((try dsimp only [Shp.D, Shp.Ds, Shp.dflt] at *); simp only [vem, veq, ne_eq, cmpI, arI, dvI, shI, SV.den, obLt, elemAt, obApp, partL, obPart, lowD, highD, mxOk, convL_self, zerosB, List.length_replicate, vln] at *; (try dsimp only [Shp.D, Shp.Ds, Shp.dflt, Shp.dflts] at *); exact ⟨(by assumption : _ ∧ Cg _ _).1, ha⟩) | (try ((try dsimp only [Shp.D, Shp.Ds, Shp.dflt] at *); simp only [vem, veq, ne_eq, cmpI, arI, dvI, shI, SV.den, obLt, elemAt, obApp, partL, obPart, lowD, highD, mxOk, convL_self, zerosB, List.length_replicate, vln] at *; (try dsimp only [Shp.D, Shp.Ds, Shp.dflt, Shp.dflts] at *))))
 all_goals first
  | (((with_reducible refine hR1 _ ?_ (fun zq bq tq yq hUq => ?_)); (focus (refine EndOk.mk (by cbv) (by cbv) (by cbv; repeat' (first | exact True.intro | exact rfl | with_reducible refine And.intro ?_ ?_)) (by cbv; repeat' (first | exact True.intro | exact rfl | with_reducible refine And.intro ?_ ?_)) (by cbv; repeat' (first | exact True.intro | exact rfl | with_reducible refine And.intro ?_ ?_)))); (have q4 := hUq.z 4); (cbv at q4); (replace q4 := q4.eq); (simp only [atI, vem, veq, ne_eq, cmpI, arI, dvI, shI, SV.den] at q4); (have q80384 := hUq.z 80384); (cbv at q80384); (replace q80384 := q80384.eq); (simp only [atI, vem, veq, ne_eq, cmpI, arI, dvI, shI, SV.den] at q80384); (have q80385 := hUq.z 80385); (cbv at q80385); (replace q80385 := q80385.eq); (simp only [atI, vem, veq, ne_eq, cmpI, arI, dvI, shI, SV.den] at q80385); (have q80386 := hUq.z 80386); (cbv at q80386); (replace q80386 := q80386.eq); (simp only [atI, vem, veq, ne_eq, cmpI, arI, dvI, shI, SV.den] at q80386); (have q80387 := hUq.z 80387); (cbv at q80387); (replace q80387 := q80387.eq); (simp only [atI, vem, veq, ne_eq, cmpI, arI, dvI, shI, SV.den] at q80387); (have q80388 := hUq.z 80388); (cbv at q80388); (replace q80388 := q80388.eq); (simp only [atI, vem, veq, ne_eq, cmpI, arI, dvI, shI, SV.den] at q80388); (clear hUq hR1); (try dsimp only [Shp.D, Shp.Ds, Shp.dflt] at *); (try simp only [vem, veq, ne_eq, cmpI, arI, dvI, shI, SV.den, elemAt, convL_self] at *); (try dsimp only [Shp.D, Shp.Ds, Shp.dflt, Shp.dflts] at *)); (try ((try dsimp only [Shp.D, Shp.Ds, Shp.dflt] at *); simp only [vem, veq, ne_eq, cmpI, arI, dvI, shI, SV.den, obLt, elemAt, obApp, partL, obPart, lowD, highD, mxOk, convL_self, zerosB, List.length_replicate, vln] at *; (try dsimp only [Shp.D, Shp.Ds, Shp.dflt, Shp.dflts] at *))); (rw [← q80384, ← q80385, ← q80386, ← q80387, ← q80388]); first | exact inv_b p3 p1 (by omega) p2 (by omega) hx.1 (by omega) | (rename_i g1 g2 g3; exact inv_a p3 p1 g1 p2 (by omega) g2.1 hx.1 (by omega)))
  | ((try ((try dsimp only [Shp.D, Shp.Ds, Shp.dflt] at *); simp only [vem, veq, ne_eq, cmpI, arI, dvI, shI, SV.den, obLt, elemAt, obApp, partL, obPart, lowD, highD, mxOk, convL_self, zerosB, List.length_replicate, vln] at *; (try dsimp only [Shp.D, Shp.Ds, Shp.dflt, Shp.dflts] at *))); exact hx.1.1)
  | ((try ((try dsimp only [Shp.D, Shp.Ds, Shp.dflt] at *); simp only [vem, veq, ne_eq, cmpI, arI, dvI, shI, SV.den, obLt, elemAt, obApp, partL, obPart, lowD, highD, mxOk, convL_self, zerosB, List.length_replicate, vln] at *; (try dsimp only [Shp.D, Shp.Ds, Shp.dflt, Shp.dflts] at *))); exact ⟨hx.1.1, ha⟩)
  | ((try ((try dsimp only [Shp.D, Shp.Ds, Shp.dflt] at *); simp only [vem, veq, ne_eq, cmpI, arI, dvI, shI, SV.den, obLt, elemAt, obApp, partL, obPart, lowD, highD, mxOk, convL_self, zerosB, List.length_replicate, vln] at *; (try dsimp only [Shp.D, Shp.Ds, Shp.dflt, Shp.dflts] at *))); exact ⟨p4, by rw [show (z1 4 + 1).toNat = 0 by omega] at p3; exact p3⟩)
  | ((try ((try dsimp only [Shp.D, Shp.Ds, Shp.dflt] at *); simp only [vem, veq, ne_eq, cmpI, arI, dvI, shI, SV.den, obLt, elemAt, obApp, partL, obPart, lowD, highD, mxOk, convL_self, zerosB, List.length_replicate, vln] at *; (try dsimp only [Shp.D, Shp.Ds, Shp.dflt, Shp.dflts] at *))); rw [show (z1 4 + 1).toNat = 0 by omega] at p3; exact p3)
end Go.Proofs.Ytihnagafldpbnaa.V
