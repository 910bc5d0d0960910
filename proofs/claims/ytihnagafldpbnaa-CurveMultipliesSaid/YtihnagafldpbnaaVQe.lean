/- ref14: Inverse, decode. -/
import Derived.Test.YtihnagafldpbnaaVQd
import Derived.Test.YtihnagafldpbnaaVUg
set_option linter.unusedVariables false
set_option linter.unusedSimpArgs false
namespace Go.Proofs.Ytihnagafldpbnaa.V
open Go.RowKit
set_option maxHeartbeats 80000000
set_option maxRecDepth 100000
theorem finv_a {a r q s : FT} {z zq v : Int} (h : powR (valF a % 57896044618658097711785492504343953926634992332820282019728792003956564819949) (z + 1).toNat (valF r % 57896044618658097711785492504343953926634992332820282019728792003956564819949) = v) (h0 : -1 ≤ z) (h9 : 0 ≤ z) (hz : z ≤ 254) (h2 : ¬ (z = 2 ∨ z = 4)) (hq : LimF 65536 q ∧ Cg (valF q) (valF r * valF r)) (hs : LimF 65536 s ∧ Cg (valF s) (valF q * valF a)) (e : zq = z - 1) :
    (-1 ≤ zq ∧ zq ≤ 254 ∧ powR (valF a % 57896044618658097711785492504343953926634992332820282019728792003956564819949) (zq + 1).toNat (valF s % 57896044618658097711785492504343953926634992332820282019728792003956564819949) = v ∧ LimF 65536 s) ∧ (zq + 1).toNat < (z + 1).toNat := by
 refine ⟨⟨by omega, by omega, ?_, hs.1⟩, by omega⟩
 rw [← h, show (z + 1).toNat = (zq + 1).toNat + 1 by omega, powR, show (((zq + 1).toNat : Nat) : Int) = z by omega]
 unfold powS
 rw [if_neg h2, Cg.prd hs.2 (hq.2.sqr rfl) rfl]
theorem finv_b {a r q : FT} {z zq v : Int} (h : powR (valF a % 57896044618658097711785492504343953926634992332820282019728792003956564819949) (z + 1).toNat (valF r % 57896044618658097711785492504343953926634992332820282019728792003956564819949) = v) (h0 : -1 ≤ z) (h9 : 0 ≤ z) (hz : z ≤ 254) (h2 : z = 2 ∨ z = 4) (hq : LimF 65536 q ∧ Cg (valF q) (valF r * valF r)) (e : zq = z - 1) :
    (-1 ≤ zq ∧ zq ≤ 254 ∧ powR (valF a % 57896044618658097711785492504343953926634992332820282019728792003956564819949) (zq + 1).toNat (valF q % 57896044618658097711785492504343953926634992332820282019728792003956564819949) = v ∧ LimF 65536 q) ∧ (zq + 1).toNat < (z + 1).toNat := by
 refine ⟨⟨by omega, by omega, ?_, hq.1⟩, by omega⟩
 rw [← h, show (z + 1).toNat = (zq + 1).toNat + 1 by omega, powR, show (((zq + 1).toNat : Nat) : Int) = z by omega]
 unfold powS
 rw [if_pos h2, hq.2.sqr rfl]
def fiC_t : SpecT := lf0 27 (mulSpF)
def fiC : Cx := ⟨tt, qt, bt, st, fiC_t, 0, 1000000000000000, fun _ => none, false, CxE.no, []⟩
theorem fiC_si {E : Env} (h : E.ok) : SpecsOk Try.prog E (CxE.no) fiC_t (fun _ => none) := ⟨(lf0_ok (.inl (fmul_sp h))), noI_ok _ _ _⟩
theorem fiC_x {E : Env} (h : E.ok) : CxEOk Try.prog E (CxE.no) := CxE.no_ok _ _
theorem fiC_cx (E : Env) (h : E.ok) (h1 : E.lo = 0) (h2 : E.hi = 1000000000000000) : Cx.ok fiC Try.prog E := ⟨tt_ok, qt_ok, bt_ok, fiC_si h, h, h1, h2, mixed_ok, fiC_x h⟩
theorem fiC_from (lo hi : Nat) (E : Env) (h : E.ok) (h1 : E.lo = lo) (h2 : E.hi = hi) : Cx.ok (Cx.from fiC lo hi) Try.prog E := ⟨tt_ok, qt_ok, bt_ok, fiC_si h, h, h1, h2, mixed_ok, fiC_x h⟩
theorem finv_fn : hasFn Try.prog 30 := ⟨_, Try.func30, by rfl, by rfl⟩
abbrev invSpF : Spec := fnSpec [fE] [fE] [] (fun (x : Shp.Ds [fE]) => LimF 65536 x.1) fun (x : Shp.Ds [fE]) (y : Shp.Ds [fE]) => LimF 65536 y.1 ∧ valF y.1 % 57896044618658097711785492504343953926634992332820282019728792003956564819949 = powA (valF x.1 % 57896044618658097711785492504343953926634992332820282019728792003956564819949)
theorem one_lim : LimF 65536 (1, 0, 0, 0, 0, 0, 0, 0, 0, 0, 0, 0, 0, 0, 0, 0, ()) := limF_iff.2 (by decide)
theorem one_val : valF (1, 0, 0, 0, 0, 0, 0, 0, 0, 0, 0, 0, 0, 0, 0, 0, ()) = 1 := by rw [valF_eq]; rfl
theorem finv_sp {E : Env} (hE : E.ok) : SpecOk Try.prog E 30 invSpF := by
 refine spec_of_vc (C := fiC) finv_fn Try.func30 (by kernel_rfl) fiC_cx (fun x hl hx => ?_) hE
 obtain ⟨⟨a0, a1, a2, a3, a4, a5, a6, a7, a8, a9, a10, a11, a12, a13, a14, a15, ⟨⟩⟩, ⟨⟩⟩ := x
 have ha : LimF 65536 (a0, a1, a2, a3, a4, a5, a6, a7, a8, a9, a10, a11, a12, a13, a14, a15, ()) := hx
 cbv
 (repeat' (first | ((with_reducible refine And.intro (fun h => ?_) (fun h => ?_)) <;> (first | with_reducible exact (tf h (by assumption)).elim | with_reducible exact (tf (by assumption) h).elim | cbv)) | ((with_reducible show JoinT (fun s K => vc _ (Code.region _ _ true) s K) _ _ _ _ _ _); (with_reducible apply JoinT.mg2); (focus (cbv; (repeat' (first | ((with_reducible refine And.intro (fun h => ?_) (fun h => ?_)) <;> (first | with_reducible exact (tf h (by assumption)).elim | with_reducible exact (tf (by assumption) h).elim | cbv)) | ((with_reducible first | refine Cb.mk ?_ | refine Lz.mk ?_ | refine JoinT.left ?_ | refine AllT.mk (fun x hx => ?_)); cbv) | ((with_reducible refine Ob.mk (fun _ => ?_) ?_); rotate_left 1) | (with_reducible first | refine Mg.mk (Exists.intro ?_ (And.intro ?_ ?_)) | rfl | refine Fin.mk ?_ | exact True.intro | refine And.intro ?_ ?_))); (all_goals (try (have du : Unit := (); have dv : Unit := (); first | exact Goes.self (Ex2.mk ⟨dv, du, trivial, trivial, rfl⟩) | exact Goes.self (Ex2.mk ⟨x, du, hx, trivial, rfl⟩) | (rename_i xa hxa; exact Goes.self (Ex2.mk ⟨xa, x, hxa, hx, rfl⟩))))); (all_goals (fail_if_success (with_reducible first | show Goes _ _ _ _ | show (∃ _, unr _ _ _ _ _ _))))))) | ((with_reducible first | refine Cb.mk ?_ | refine Lz.mk ?_ | refine JoinT.left ?_ | refine AllT.mk (fun x hx => ?_)); cbv) | ((with_reducible refine Ob.mk (fun _ => ?_) ?_); rotate_left 1) | (with_reducible first | refine Mg.mk (Exists.intro ?_ (And.intro ?_ ?_)) | rfl | refine Fin.mk ?_ | exact True.intro | refine And.intro ?_ ?_)))
 all_goals first | (with_reducible show (∃ _, unr _ _ _ _ _ _); skip) | (with_reducible show UnrI _ _ _ _ _; skip) | (with_reducible show Goes _ _ _ _; skip) | (with_reducible show JoinT _ _ _ _ _ _ _; skip) | (first | ((try dsimp only [Shp.D, Shp.Ds, Shp.dflt] at *); simp only [vem, veq, ne_eq, cmpI, arI, dvI, shI, SV.den, obLt, elemAt, obApp, partL, obPart, lowD, highD, mxOk, convL_self, zerosB, List.length_replicate, vln] at *; (try dsimp only [Shp.D, Shp.Ds, Shp.dflt, Shp.dflts] at *); done) | ((try dsimp only [Shp.D, Shp.Ds, Shp.dflt] at *); simp only [vem, veq, ne_eq, cmpI, arI, dvI, shI, SV.den, obLt, elemAt, obApp, partL, obPart, lowD, highD, mxOk, convL_self, zerosB, List.length_replicate, vln] at *; (try dsimp only [Shp.D, Shp.Ds, Shp.dflt, Shp.dflts] at *); omega) | (try ((try dsimp only [Shp.D, Shp.Ds, Shp.dflt] at *); simp only [vem, veq, ne_eq, cmpI, arI, dvI, shI, SV.den, obLt, elemAt, obApp, partL, obPart, lowD, highD, mxOk, convL_self, zerosB, List.length_replicate, vln] at *; (try dsimp only [Shp.D, Shp.Ds, Shp.dflt, Shp.dflts] at *))))
 with_reducible refine loop_hv [] (rangeN 5 18) [1192] [] (fun z b t y => -1 ≤ z 4 ∧ z 4 ≤ 254 ∧ powR (valF (a0, a1, a2, a3, a4, a5, a6, a7, a8, a9, a10, a11, a12, a13, a14, a15, ()) % 57896044618658097711785492504343953926634992332820282019728792003956564819949) (z 4 + 1).toNat (valF (z 80384, z 80385, z 80386, z 80387, z 80388, z 80389, z 80390, z 80391, z 80392, z 80393, z 80394, z 80395, z 80396, z 80397, z 80398, z 80399, ()) % 57896044618658097711785492504343953926634992332820282019728792003956564819949) = powA (valF (a0, a1, a2, a3, a4, a5, a6, a7, a8, a9, a10, a11, a12, a13, a14, a15, ()) % 57896044618658097711785492504343953926634992332820282019728792003956564819949) ∧ LimF 65536 (z 80384, z 80385, z 80386, z 80387, z 80388, z 80389, z 80390, z 80391, z 80392, z 80393, z 80394, z 80395, z 80396, z 80397, z 80398, z 80399, ())) (fun z b t y => (z 4 + 1).toNat) (by cbv) (by cbv) ?_ ?_ (fun z1 b1 t1 u1 y1 R1 hP1 hR1 => ?_)
 ·refine EndOk.mk (by cbv) (by cbv) (by cbv; repeat' (first | exact True.intro | exact rfl | with_reducible refine And.intro ?_ ?_)) (by cbv; repeat' (first | exact True.intro | exact rfl | with_reducible refine And.intro ?_ ?_)) (by cbv; repeat' (first | exact True.intro | exact rfl | with_reducible refine And.intro ?_ ?_))
 ·intro zq bq tq yq hUq
  have q4 := hUq.z 4
  cbv at q4
  replace q4 := q4.eq
  simp only [atI, vem, veq, ne_eq, cmpI, arI, dvI, shI, SV.den] at q4
  have q80384 := hUq.z 80384
  cbv at q80384
  replace q80384 := q80384.eq
  simp only [atI, vem, veq, ne_eq, cmpI, arI, dvI, shI, SV.den] at q80384
  have q80385 := hUq.z 80385
  cbv at q80385
  replace q80385 := q80385.eq
  simp only [atI, vem, veq, ne_eq, cmpI, arI, dvI, shI, SV.den] at q80385
  have q80386 := hUq.z 80386
  cbv at q80386
  replace q80386 := q80386.eq
  simp only [atI, vem, veq, ne_eq, cmpI, arI, dvI, shI, SV.den] at q80386
  have q80387 := hUq.z 80387
  cbv at q80387
  replace q80387 := q80387.eq
  simp only [atI, vem, veq, ne_eq, cmpI, arI, dvI, shI, SV.den] at q80387
  have q80388 := hUq.z 80388
  cbv at q80388
  replace q80388 := q80388.eq
  simp only [atI, vem, veq, ne_eq, cmpI, arI, dvI, shI, SV.den] at q80388
  have q80389 := hUq.z 80389
  cbv at q80389
  replace q80389 := q80389.eq
  simp only [atI, vem, veq, ne_eq, cmpI, arI, dvI, shI, SV.den] at q80389
  have q80390 := hUq.z 80390
  cbv at q80390
  replace q80390 := q80390.eq
  simp only [atI, vem, veq, ne_eq, cmpI, arI, dvI, shI, SV.den] at q80390
  have q80391 := hUq.z 80391
  cbv at q80391
  replace q80391 := q80391.eq
  simp only [atI, vem, veq, ne_eq, cmpI, arI, dvI, shI, SV.den] at q80391
  have q80392 := hUq.z 80392
  cbv at q80392
  replace q80392 := q80392.eq
  simp only [atI, vem, veq, ne_eq, cmpI, arI, dvI, shI, SV.den] at q80392
  have q80393 := hUq.z 80393
  cbv at q80393
  replace q80393 := q80393.eq
  simp only [atI, vem, veq, ne_eq, cmpI, arI, dvI, shI, SV.den] at q80393
  have q80394 := hUq.z 80394
  cbv at q80394
  replace q80394 := q80394.eq
  simp only [atI, vem, veq, ne_eq, cmpI, arI, dvI, shI, SV.den] at q80394
  have q80395 := hUq.z 80395
  cbv at q80395
  replace q80395 := q80395.eq
  simp only [atI, vem, veq, ne_eq, cmpI, arI, dvI, shI, SV.den] at q80395
  have q80396 := hUq.z 80396
  cbv at q80396
  replace q80396 := q80396.eq
  simp only [atI, vem, veq, ne_eq, cmpI, arI, dvI, shI, SV.den] at q80396
  have q80397 := hUq.z 80397
  cbv at q80397
  replace q80397 := q80397.eq
  simp only [atI, vem, veq, ne_eq, cmpI, arI, dvI, shI, SV.den] at q80397
  have q80398 := hUq.z 80398
  cbv at q80398
  replace q80398 := q80398.eq
  simp only [atI, vem, veq, ne_eq, cmpI, arI, dvI, shI, SV.den] at q80398
  have q80399 := hUq.z 80399
  cbv at q80399
  replace q80399 := q80399.eq
  simp only [atI, vem, veq, ne_eq, cmpI, arI, dvI, shI, SV.den] at q80399
  clear hUq
  try dsimp only [Shp.D, Shp.Ds, Shp.dflt] at *
  try simp only [vem, veq, ne_eq, cmpI, arI, dvI, shI, SV.den, convL_self] at *
  rw [← q4, ← q80384, ← q80385, ← q80386, ← q80387, ← q80388, ← q80389, ← q80390, ← q80391, ← q80392, ← q80393, ← q80394, ← q80395, ← q80396, ← q80397, ← q80398, ← q80399]
  exact ⟨by omega, by omega, by rw [one_val]; rfl, one_lim⟩
 obtain ⟨p1, p2, p3, p4⟩ := hP1
 cbv
 (repeat' (first | ((with_reducible refine And.intro (fun h => ?_) (fun h => ?_)) <;> (first | with_reducible exact (tf h (by assumption)).elim | with_reducible exact (tf (by assumption) h).elim | cbv)) | ((with_reducible show JoinT (fun s K => vc _ (Code.region _ _ true) s K) _ _ _ _ _ _); (with_reducible apply JoinT.mg2); (focus (cbv; (repeat' (first | ((with_reducible refine And.intro (fun h => ?_) (fun h => ?_)) <;> (first | with_reducible exact (tf h (by assumption)).elim | with_reducible exact (tf (by assumption) h).elim | cbv)) | ((with_reducible first | refine Cb.mk ?_ | refine Lz.mk ?_ | refine JoinT.left ?_ | refine AllT.mk (fun x hx => ?_)); cbv) | ((with_reducible refine Ob.mk (fun _ => ?_) ?_); rotate_left 1) | (with_reducible first | refine Mg.mk (Exists.intro ?_ (And.intro ?_ ?_)) | rfl | refine Fin.mk ?_ | exact True.intro | refine And.intro ?_ ?_))); (all_goals (try (have du : Unit := (); have dv : Unit := (); first | exact Goes.self (Ex2.mk ⟨dv, du, trivial, trivial, rfl⟩) | exact Goes.self (Ex2.mk ⟨x, du, hx, trivial, rfl⟩) | (rename_i xa hxa; exact Goes.self (Ex2.mk ⟨xa, x, hxa, hx, rfl⟩))))); (all_goals (fail_if_success (with_reducible first | show Goes _ _ _ _ | show (∃ _, unr _ _ _ _ _ _))))))) | ((with_reducible first | refine Cb.mk ?_ | refine Lz.mk ?_ | refine JoinT.left ?_ | refine AllT.mk (fun x hx => ?_)); cbv) | ((with_reducible refine Ob.mk (fun _ => ?_) ?_); rotate_left 1) | (with_reducible first | refine Mg.mk (Exists.intro ?_ (And.intro ?_ ?_)) | rfl | refine Fin.mk ?_ | exact True.intro | refine And.intro ?_ ?_)))
 all_goals first | (with_reducible show (∃ _, unr _ _ _ _ _ _); skip) | (with_reducible show UnrI _ _ _ _ _; skip) | (with_reducible show Goes _ _ _ _; skip) | (with_reducible show JoinT _ _ _ _ _ _ _; skip) | (first | ((try dsimp only [Shp.D, Shp.Ds, Shp.dflt] at *); simp only [vem, veq, ne_eq, cmpI, arI, dvI, shI, SV.den, obLt, elemAt, obApp, partL, obPart, lowD, highD, mxOk, convL_self, zerosB, List.length_replicate, vln] at *; (try dsimp only [Shp.D, Shp.Ds, Shp.dflt, Shp.dflts] at *); done) | ((try dsimp only [Shp.D, Shp.Ds, Shp.dflt] at *); simp only [vem, veq, ne_eq, cmpI, arI, dvI, shI, SV.den, obLt, elemAt, obApp, partL, obPart, lowD, highD, mxOk, convL_self, zerosB, List.length_replicate, vln] at *; (try dsimp only [Shp.D, Shp.Ds, Shp.dflt, Shp.dflts] at *); omega) | ((try dsimp only [Shp.D, Shp.Ds, Shp.dflt] at *); simp only [vem, veq, ne_eq, cmpI, arI, dvI, shI, SV.den, obLt, elemAt, obApp, partL, obPart, lowD, highD, mxOk, convL_self, zerosB, List.length_replicate, vln] at *; (try dsimp only [Shp.D, Shp.Ds, Shp.dflt, Shp.dflts] at *); exact ⟨p4, p4⟩) | ((try dsimp only [Shp.D, Shp.Ds, Shp.dflt] at *); simp only [vem, veq, ne_eq, cmpI, arI, dvI, shI, SV.den, obLt, elemAt, obApp, partL, obPart, lowD, highD, mxOk, convL_self, zerosB, List.length_replicate, vln] at *; (try dsimp only [Shp.D, Shp.Ds, Shp.dflt, Shp.dflts] at *); exact ⟨(by assumption : _ ∧ Cg _ _).1, ha⟩) | (try ((try dsimp only [Shp.D, Shp.Ds, Shp.dflt] at *); simp only [vem, veq, ne_eq, cmpI, arI, dvI, shI, SV.den, obLt, elemAt, obApp, partL, obPart, lowD, highD, mxOk, convL_self, zerosB, List.length_replicate, vln] at *; (try dsimp only [Shp.D, Shp.Ds, Shp.dflt, Shp.dflts] at *))))
 all_goals first
  | (with_reducible show Goes _ _ _ _
     (((with_reducible refine hR1 _ ?_ (fun zq bq tq yq hUq => ?_)); (focus (refine EndOk.mk (by cbv) (by cbv) (by cbv; repeat' (first | exact True.intro | exact rfl | with_reducible refine And.intro ?_ ?_)) (by cbv; repeat' (first | exact True.intro | exact rfl | with_reducible refine And.intro ?_ ?_)) (by cbv; repeat' (first | exact True.intro | exact rfl | with_reducible refine And.intro ?_ ?_)))); (have q4 := hUq.z 4); (cbv at q4); (replace q4 := q4.eq); (simp only [atI, vem, veq, ne_eq, cmpI, arI, dvI, shI, SV.den] at q4); (have q80384 := hUq.z 80384); (cbv at q80384); (replace q80384 := q80384.eq); (simp only [atI, vem, veq, ne_eq, cmpI, arI, dvI, shI, SV.den] at q80384); (have q80385 := hUq.z 80385); (cbv at q80385); (replace q80385 := q80385.eq); (simp only [atI, vem, veq, ne_eq, cmpI, arI, dvI, shI, SV.den] at q80385); (have q80386 := hUq.z 80386); (cbv at q80386); (replace q80386 := q80386.eq); (simp only [atI, vem, veq, ne_eq, cmpI, arI, dvI, shI, SV.den] at q80386); (have q80387 := hUq.z 80387); (cbv at q80387); (replace q80387 := q80387.eq); (simp only [atI, vem, veq, ne_eq, cmpI, arI, dvI, shI, SV.den] at q80387); (have q80388 := hUq.z 80388); (cbv at q80388); (replace q80388 := q80388.eq); (simp only [atI, vem, veq, ne_eq, cmpI, arI, dvI, shI, SV.den] at q80388); (have q80389 := hUq.z 80389); (cbv at q80389); (replace q80389 := q80389.eq); (simp only [atI, vem, veq, ne_eq, cmpI, arI, dvI, shI, SV.den] at q80389); (have q80390 := hUq.z 80390); (cbv at q80390); (replace q80390 := q80390.eq); (simp only [atI, vem, veq, ne_eq, cmpI, arI, dvI, shI, SV.den] at q80390); (have q80391 := hUq.z 80391); (cbv at q80391); (replace q80391 := q80391.eq); (simp only [atI, vem, veq, ne_eq, cmpI, arI, dvI, shI, SV.den] at q80391); (have q80392 := hUq.z 80392); (cbv at q80392); (replace q80392 := q80392.eq); (simp only [atI, vem, veq, ne_eq, cmpI, arI, dvI, shI, SV.den] at q80392); (have q80393 := hUq.z 80393); (cbv at q80393); (replace q80393 := q80393.eq); (simp only [atI, vem, veq, ne_eq, cmpI, arI, dvI, shI, SV.den] at q80393); (have q80394 := hUq.z 80394); (cbv at q80394); (replace q80394 := q80394.eq); (simp only [atI, vem, veq, ne_eq, cmpI, arI, dvI, shI, SV.den] at q80394); (have q80395 := hUq.z 80395); (cbv at q80395); (replace q80395 := q80395.eq); (simp only [atI, vem, veq, ne_eq, cmpI, arI, dvI, shI, SV.den] at q80395); (have q80396 := hUq.z 80396); (cbv at q80396); (replace q80396 := q80396.eq); (simp only [atI, vem, veq, ne_eq, cmpI, arI, dvI, shI, SV.den] at q80396); (have q80397 := hUq.z 80397); (cbv at q80397); (replace q80397 := q80397.eq); (simp only [atI, vem, veq, ne_eq, cmpI, arI, dvI, shI, SV.den] at q80397); (have q80398 := hUq.z 80398); (cbv at q80398); (replace q80398 := q80398.eq); (simp only [atI, vem, veq, ne_eq, cmpI, arI, dvI, shI, SV.den] at q80398); (have q80399 := hUq.z 80399); (cbv at q80399); (replace q80399 := q80399.eq); (simp only [atI, vem, veq, ne_eq, cmpI, arI, dvI, shI, SV.den] at q80399); (clear hUq hR1); (try dsimp only [Shp.D, Shp.Ds, Shp.dflt] at *); (try simp only [vem, veq, ne_eq, cmpI, arI, dvI, shI, SV.den, elemAt, convL_self] at *); (try dsimp only [Shp.D, Shp.Ds, Shp.dflt, Shp.dflts] at *))); (try ((try dsimp only [Shp.D, Shp.Ds, Shp.dflt] at *); simp only [vem, veq, ne_eq, cmpI, arI, dvI, shI, SV.den, obLt, elemAt, obApp, partL, obPart, lowD, highD, mxOk, convL_self, zerosB, List.length_replicate, vln] at *; (try dsimp only [Shp.D, Shp.Ds, Shp.dflt, Shp.dflts] at *))); (rw [← q80384, ← q80385, ← q80386, ← q80387, ← q80388, ← q80389, ← q80390, ← q80391, ← q80392, ← q80393, ← q80394, ← q80395, ← q80396, ← q80397, ← q80398, ← q80399]); first | exact finv_b p3 p1 (by omega) p2 (by omega) hx.1 (by omega) | (rename_i g1 g2 g3; exact finv_a p3 p1 g1 p2 (by omega) g2.1 hx.1 (by omega)))
  | ((try ((try dsimp only [Shp.D, Shp.Ds, Shp.dflt] at *); simp only [vem, veq, ne_eq, cmpI, arI, dvI, shI, SV.den, obLt, elemAt, obApp, partL, obPart, lowD, highD, mxOk, convL_self, zerosB, List.length_replicate, vln] at *; (try dsimp only [Shp.D, Shp.Ds, Shp.dflt, Shp.dflts] at *))); exact hx.1.1)
  | ((try ((try dsimp only [Shp.D, Shp.Ds, Shp.dflt] at *); simp only [vem, veq, ne_eq, cmpI, arI, dvI, shI, SV.den, obLt, elemAt, obApp, partL, obPart, lowD, highD, mxOk, convL_self, zerosB, List.length_replicate, vln] at *; (try dsimp only [Shp.D, Shp.Ds, Shp.dflt, Shp.dflts] at *))); exact ⟨hx.1.1, ha⟩)
  | ((try ((try dsimp only [Shp.D, Shp.Ds, Shp.dflt] at *); simp only [vem, veq, ne_eq, cmpI, arI, dvI, shI, SV.den, obLt, elemAt, obApp, partL, obPart, lowD, highD, mxOk, convL_self, zerosB, List.length_replicate, vln] at *; (try dsimp only [Shp.D, Shp.Ds, Shp.dflt, Shp.dflts] at *))); exact ⟨p4, by rw [show (z1 4 + 1).toNat = 0 by omega] at p3; exact p3⟩)
  | ((try ((try dsimp only [Shp.D, Shp.Ds, Shp.dflt] at *); simp only [vem, veq, ne_eq, cmpI, arI, dvI, shI, SV.den, obLt, elemAt, obApp, partL, obPart, lowD, highD, mxOk, convL_self, zerosB, List.length_replicate, vln] at *; (try dsimp only [Shp.D, Shp.Ds, Shp.dflt, Shp.dflts] at *))); exact p4)
  | ((try ((try dsimp only [Shp.D, Shp.Ds, Shp.dflt] at *); simp only [vem, veq, ne_eq, cmpI, arI, dvI, shI, SV.den, obLt, elemAt, obApp, partL, obPart, lowD, highD, mxOk, convL_self, zerosB, List.length_replicate, vln] at *; (try dsimp only [Shp.D, Shp.Ds, Shp.dflt, Shp.dflts] at *))); rw [show (z1 4 + 1).toNat = 0 by omega] at p3; exact p3)
theorem or8 {x y : Int} (hx : 0 ≤ x ∧ x < 256) (hy : 0 ≤ y ∧ y < 256) : bits .or .u64 x (IntKind.u64.wrap (y * 2 ^ min (Int.toNat 8) IntKind.u64.bits)) = x + 256 * y := by
 obtain ⟨a, rfl⟩ := Int.eq_ofNat_of_zero_le hx.1
 obtain ⟨b, rfl⟩ := Int.eq_ofNat_of_zero_le hy.1
 have e := bits_or_u64_nat a (2 ^ 8 * b) (by omega) (by omega)
 rw [Nat.or_comm, ← Nat.two_pow_add_eq_or_of_lt (show a < 2 ^ 8 by omega) b] at e
 rw [show (b : Int) * 2 ^ min (Int.toNat 8) IntKind.u64.bits = (b : Int) * 256 from rfl, wru (by omega), show (b : Int) * 256 = ((2 ^ 8 * b : Nat) : Int) by omega, e]
 omega
theorem or8b (a b : UInt8) : bits .or .u64 (a.toNat : Int) (IntKind.u64.wrap ((b.toNat : Int) * 2 ^ min (Int.toNat 8) IntKind.u64.bits)) = (a.toNat : Int) + 256 * (b.toNat : Int) := or8 (by have := a.toNat_lt; omega) (by have := b.toNat_lt; omega)
theorem or8c (a b : UInt8) : bits .or .u64 (a.toNat : Int) (IntKind.u64.wrap ((b.toNat : Int) * 2 ^ min 8 IntKind.u64.bits)) = (a.toNat : Int) + 256 * (b.toNat : Int) := or8b a b
theorem and15 {x : Int} (h : 0 ≤ x ∧ x < 18446744073709551616) : bits .and .u64 x 32767 = x % 32768 := by
 obtain ⟨n, rfl⟩ := Int.eq_ofNat_of_zero_le h.1
 have e := bits_and_u64_nat n 32767 (by omega) (by omega)
 rw [show n &&& 32767 = n % 32768 from Nat.and_two_pow_sub_one_eq_mod n 15] at e
 exact e
theorem byteF (b : UInt8) : 0 ≤ (b.toNat : Int) ∧ (b.toNat : Int) < 256 := by
 have := b.toNat_lt
 omega
theorem wrbF (b : UInt8) : IntKind.u64.wrap (b.toNat : Int) = (b.toNat : Int) := wru (by have := b.toNat_lt; omega)
theorem leV_sum (l : List UInt8) (h : l.length = 32) : leV l = ((l.getD 0 0).toNat : Int) + 256 * ((l.getD 1 0).toNat : Int) + 65536 * ((l.getD 2 0).toNat : Int) + 16777216 * ((l.getD 3 0).toNat : Int) + 4294967296 * ((l.getD 4 0).toNat : Int) + 1099511627776 * ((l.getD 5 0).toNat : Int) + 281474976710656 * ((l.getD 6 0).toNat : Int) + 72057594037927936 * ((l.getD 7 0).toNat : Int) + 18446744073709551616 * ((l.getD 8 0).toNat : Int) + 4722366482869645213696 * ((l.getD 9 0).toNat : Int) + 1208925819614629174706176 * ((l.getD 10 0).toNat : Int) + 309485009821345068724781056 * ((l.getD 11 0).toNat : Int) + 79228162514264337593543950336 * ((l.getD 12 0).toNat : Int) + 20282409603651670423947251286016 * ((l.getD 13 0).toNat : Int) + 5192296858534827628530496329220096 * ((l.getD 14 0).toNat : Int) + 1329227995784915872903807060280344576 * ((l.getD 15 0).toNat : Int) + 340282366920938463463374607431768211456 * ((l.getD 16 0).toNat : Int) + 87112285931760246646623899502532662132736 * ((l.getD 17 0).toNat : Int) + 22300745198530623141535718272648361505980416 * ((l.getD 18 0).toNat : Int) + 5708990770823839524233143877797980545530986496 * ((l.getD 19 0).toNat : Int) + 1461501637330902918203684832716283019655932542976 * ((l.getD 20 0).toNat : Int) + 374144419156711147060143317175368453031918731001856 * ((l.getD 21 0).toNat : Int) + 95780971304118053647396689196894323976171195136475136 * ((l.getD 22 0).toNat : Int) + 24519928653854221733733552434404946937899825954937634816 * ((l.getD 23 0).toNat : Int) + 6277101735386680763835789423207666416102355444464034512896 * ((l.getD 24 0).toNat : Int) + 1606938044258990275541962092341162602522202993782792835301376 * ((l.getD 25 0).toNat : Int) + 411376139330301510538742295639337626245683966408394965837152256 * ((l.getD 26 0).toNat : Int) + 105312291668557186697918027683670432318895095400549111254310977536 * ((l.getD 27 0).toNat : Int) + 26959946667150639794667015087019630673637144422540572481103610249216 * ((l.getD 28 0).toNat : Int) + 6901746346790563787434755862277025452451108972170386555162524223799296 * ((l.getD 29 0).toNat : Int) + 1766847064778384329583297500742918515827483896875618958121606201292619776 * ((l.getD 30 0).toNat : Int) + 452312848583266388373324160190187140051835877600158453279131187530910662656 * ((l.getD 31 0).toNat : Int) := by
 match l, h with
 | [b0, b1, b2, b3, b4, b5, b6, b7, b8, b9, b10, b11, b12, b13, b14, b15, b16, b17, b18, b19, b20, b21, b22, b23, b24, b25, b26, b27, b28, b29, b30, b31], _ =>
   simp only [leV, List.getD_cons_zero, List.getD_cons_succ]
   omega
abbrev decSpF : Spec := fnSpec [.sl .byte] [fE] [] (fun (x : Shp.Ds [.sl .byte]) => x.1.length = 32) fun (x : Shp.Ds [.sl .byte]) (y : Shp.Ds [fE]) => LimF 65536 y.1 ∧ valF y.1 = leV x.1 % 57896044618658097711785492504343953926634992332820282019728792003956564819968
def fdC_t : SpecT := fun _ => none
def fdC : Cx := ⟨tt, qt, bt, st, fdC_t, 0, 1000000000000000, fun _ => none, false, CxE.no, []⟩
theorem fdC_si {E : Env} (h : E.ok) : SpecsOk Try.prog E (CxE.no) fdC_t (fun _ => none) := ⟨(fun t f h => by cases h), noI_ok _ _ _⟩
theorem fdC_x {E : Env} (h : E.ok) : CxEOk Try.prog E (CxE.no) := CxE.no_ok _ _
theorem fdC_cx (E : Env) (h : E.ok) (h1 : E.lo = 0) (h2 : E.hi = 1000000000000000) : Cx.ok fdC Try.prog E := ⟨tt_ok, qt_ok, bt_ok, fdC_si h, h, h1, h2, mixed_ok, fdC_x h⟩
theorem fdC_from (lo hi : Nat) (E : Env) (h : E.ok) (h1 : E.lo = lo) (h2 : E.hi = hi) : Cx.ok (Cx.from fdC lo hi) Try.prog E := ⟨tt_ok, qt_ok, bt_ok, fdC_si h, h, h1, h2, mixed_ok, fdC_x h⟩
theorem fdec_fn : hasFn Try.prog 24 := ⟨_, Try.func24, by rfl, by rfl⟩
theorem fdec_sp {E : Env} (hE : E.ok) : SpecOk Try.prog E 24 decSpF := by
 refine spec_of_vc (C := fdC) fdec_fn Try.func24 (by kernel_rfl) fdC_cx (fun x hl hx => ?_) hE
 obtain ⟨x, ⟨⟩⟩ := x
 have hx : x.length = 32 := hx
 have hv := leV_sum x hx
 have n0 := byteF (x.getD 0 0)
 have n1 := byteF (x.getD 1 0)
 have n2 := byteF (x.getD 2 0)
 have n3 := byteF (x.getD 3 0)
 have n4 := byteF (x.getD 4 0)
 have n5 := byteF (x.getD 5 0)
 have n6 := byteF (x.getD 6 0)
 have n7 := byteF (x.getD 7 0)
 have n8 := byteF (x.getD 8 0)
 have n9 := byteF (x.getD 9 0)
 have n10 := byteF (x.getD 10 0)
 have n11 := byteF (x.getD 11 0)
 have n12 := byteF (x.getD 12 0)
 have n13 := byteF (x.getD 13 0)
 have n14 := byteF (x.getD 14 0)
 have n15 := byteF (x.getD 15 0)
 have n16 := byteF (x.getD 16 0)
 have n17 := byteF (x.getD 17 0)
 have n18 := byteF (x.getD 18 0)
 have n19 := byteF (x.getD 19 0)
 have n20 := byteF (x.getD 20 0)
 have n21 := byteF (x.getD 21 0)
 have n22 := byteF (x.getD 22 0)
 have n23 := byteF (x.getD 23 0)
 have n24 := byteF (x.getD 24 0)
 have n25 := byteF (x.getD 25 0)
 have n26 := byteF (x.getD 26 0)
 have n27 := byteF (x.getD 27 0)
 have n28 := byteF (x.getD 28 0)
 have n29 := byteF (x.getD 29 0)
 have n30 := byteF (x.getD 30 0)
 have n31 := byteF (x.getD 31 0)
 cbv
 (repeat' (first | ((with_reducible refine And.intro (fun h => ?_) (fun h => ?_)) <;> (first | with_reducible exact (tf h (by assumption)).elim | with_reducible exact (tf (by assumption) h).elim | cbv)) | ((with_reducible show JoinT (fun s K => vc _ (Code.region _ _ true) s K) _ _ _ _ _ _); (with_reducible apply JoinT.mg2); (focus (cbv; (repeat' (first | ((with_reducible refine And.intro (fun h => ?_) (fun h => ?_)) <;> (first | with_reducible exact (tf h (by assumption)).elim | with_reducible exact (tf (by assumption) h).elim | cbv)) | ((with_reducible first | refine Cb.mk ?_ | refine Lz.mk ?_ | refine JoinT.left ?_ | refine AllT.mk (fun x hx => ?_)); cbv) | ((with_reducible refine Ob.mk (fun _ => ?_) ?_); rotate_left 1) | (with_reducible first | refine Mg.mk (Exists.intro ?_ (And.intro ?_ ?_)) | rfl | refine Fin.mk ?_ | exact True.intro | refine And.intro ?_ ?_))); (all_goals (try (have du : Unit := (); have dv : Unit := (); first | exact Goes.self (Ex2.mk ⟨dv, du, trivial, trivial, rfl⟩) | exact Goes.self (Ex2.mk ⟨x, du, hx, trivial, rfl⟩) | (rename_i xa hxa; exact Goes.self (Ex2.mk ⟨xa, x, hxa, hx, rfl⟩))))); (all_goals (fail_if_success (with_reducible first | show Goes _ _ _ _ | show (∃ _, unr _ _ _ _ _ _))))))) | ((with_reducible first | refine Cb.mk ?_ | refine Lz.mk ?_ | refine JoinT.left ?_ | refine AllT.mk (fun x hx => ?_)); cbv) | ((with_reducible refine Ob.mk (fun _ => ?_) ?_); rotate_left 1) | (with_reducible first | refine Mg.mk (Exists.intro ?_ (And.intro ?_ ?_)) | rfl | refine Fin.mk ?_ | exact True.intro | refine And.intro ?_ ?_)))
 all_goals first | (with_reducible show (∃ _, unr _ _ _ _ _ _); skip) | (with_reducible show UnrI _ _ _ _ _; skip) | (with_reducible show Goes _ _ _ _; skip) | (with_reducible show JoinT _ _ _ _ _ _ _; skip) | (first | ((try dsimp only [Shp.D, Shp.Ds, Shp.dflt] at *); simp only [vem, veq, ne_eq, cmpI, arI, dvI, shI, SV.den, obLt, elemAt, obApp, partL, obPart, lowD, highD, mxOk, convL_self, zerosB, List.length_replicate, vln] at *; (try dsimp only [Shp.D, Shp.Ds, Shp.dflt, Shp.dflts] at *); done) | ((try dsimp only [Shp.D, Shp.Ds, Shp.dflt] at *); simp only [vem, veq, ne_eq, cmpI, arI, dvI, shI, SV.den, obLt, elemAt, obApp, partL, obPart, lowD, highD, mxOk, convL_self, zerosB, List.length_replicate, vln] at *; (try dsimp only [Shp.D, Shp.Ds, Shp.dflt, Shp.dflts] at *); omega) | (try ((try dsimp only [Shp.D, Shp.Ds, Shp.dflt] at *); simp only [vem, veq, ne_eq, cmpI, arI, dvI, shI, SV.den, obLt, elemAt, obApp, partL, obPart, lowD, highD, mxOk, convL_self, zerosB, List.length_replicate, vln] at *; (try dsimp only [Shp.D, Shp.Ds, Shp.dflt, Shp.dflts] at *))))
 refine ⟨17, ?_⟩
 cbv
 (repeat' (first | ((with_reducible refine And.intro (fun h => ?_) (fun h => ?_)) <;> (first | with_reducible exact (tf h (by assumption)).elim | with_reducible exact (tf (by assumption) h).elim | cbv)) | ((with_reducible show JoinT (fun s K => vc _ (Code.region _ _ true) s K) _ _ _ _ _ _); (with_reducible apply JoinT.mg2); (focus (cbv; (repeat' (first | ((with_reducible refine And.intro (fun h => ?_) (fun h => ?_)) <;> (first | with_reducible exact (tf h (by assumption)).elim | with_reducible exact (tf (by assumption) h).elim | cbv)) | ((with_reducible first | refine Cb.mk ?_ | refine Lz.mk ?_ | refine JoinT.left ?_ | refine AllT.mk (fun x hx => ?_)); cbv) | ((with_reducible refine Ob.mk (fun _ => ?_) ?_); rotate_left 1) | (with_reducible first | refine Mg.mk (Exists.intro ?_ (And.intro ?_ ?_)) | rfl | refine Fin.mk ?_ | exact True.intro | refine And.intro ?_ ?_))); (all_goals (try (have du : Unit := (); have dv : Unit := (); first | exact Goes.self (Ex2.mk ⟨dv, du, trivial, trivial, rfl⟩) | exact Goes.self (Ex2.mk ⟨x, du, hx, trivial, rfl⟩) | (rename_i xa hxa; exact Goes.self (Ex2.mk ⟨xa, x, hxa, hx, rfl⟩))))); (all_goals (fail_if_success (with_reducible first | show Goes _ _ _ _ | show (∃ _, unr _ _ _ _ _ _))))))) | ((with_reducible first | refine Cb.mk ?_ | refine Lz.mk ?_ | refine JoinT.left ?_ | refine AllT.mk (fun x hx => ?_)); cbv) | ((with_reducible refine Ob.mk (fun _ => ?_) ?_); rotate_left 1) | (with_reducible first | refine Mg.mk (Exists.intro ?_ (And.intro ?_ ?_)) | rfl | refine Fin.mk ?_ | exact True.intro | refine And.intro ?_ ?_)))
 all_goals first | (((try dsimp only [Shp.D, Shp.Ds, Shp.dflt] at *); simp only [vem, veq, ne_eq, cmpI, arI, dvI, shI, SV.den, obLt, elemAt, obApp, partL, obPart, lowD, highD, mxOk, convL_self, zerosB, List.length_replicate, vln] at *; (try dsimp only [Shp.D, Shp.Ds, Shp.dflt, Shp.dflts] at *)); done) | (((try dsimp only [Shp.D, Shp.Ds, Shp.dflt] at *); simp only [vem, veq, ne_eq, cmpI, arI, dvI, shI, SV.den, obLt, elemAt, obApp, partL, obPart, lowD, highD, mxOk, convL_self, zerosB, List.length_replicate, vln] at *; (try dsimp only [Shp.D, Shp.Ds, Shp.dflt, Shp.dflts] at *)); omega) | (((try dsimp only [Shp.D, Shp.Ds, Shp.dflt] at *); simp only [vem, veq, ne_eq, cmpI, arI, dvI, shI, SV.den, obLt, elemAt, obApp, partL, obPart, lowD, highD, mxOk, convL_self, zerosB, List.length_replicate, vln] at *; (try dsimp only [Shp.D, Shp.Ds, Shp.dflt, Shp.dflts] at *)); exfalso; omega) | skip
 all_goals
  ((try dsimp only [Shp.D, Shp.Ds, Shp.dflt] at *); simp only [vem, veq, ne_eq, cmpI, arI, dvI, shI, SV.den, obLt, elemAt, obApp, partL, obPart, lowD, highD, mxOk, convL_self, zerosB, List.length_replicate, vln] at *; (try dsimp only [Shp.D, Shp.Ds, Shp.dflt, Shp.dflts] at *))
  simp only [wrbF, or8c, Int.reduceToNat]
  simp (disch := omega) only [and15]
  first
   | exact limF_iff.2 ⟨by omega, by omega, by omega, by omega, by omega, by omega, by omega, by omega, by omega, by omega, by omega, by omega, by omega, by omega, by omega, by omega⟩
   | (rw [valF_eq, hv]; omega)
end Go.Proofs.Ytihnagafldpbnaa.V
