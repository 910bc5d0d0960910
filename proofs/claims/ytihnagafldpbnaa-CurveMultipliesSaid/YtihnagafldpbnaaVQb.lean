/- ref14: carry. -/
import Derived.Test.YtihnagafldpbnaaVQa
import Derived.Test.YtihnagafldpbnaaVUj
set_option linter.unusedVariables false
set_option linter.unusedSimpArgs false
namespace Go.Proofs.Ytihnagafldpbnaa.V
open Go.RowKit
set_option maxHeartbeats 80000000
set_option maxRecDepth 100000
abbrev carSpF : Spec := fnSpec [fE] [fE] [] (fun (x : Shp.Ds [fE]) => LimF 9223372036854775808 x.1) fun (x : Shp.Ds [fE]) (y : Shp.Ds [fE]) => LimF 65536 y.1 ∧ Cg (valF y.1) (valF x.1)
def fcC_t : SpecT := fun _ => none
def fcC : Cx := ⟨tt, qt, bt, st, fcC_t, 0, 1000000000000000, fun _ => none, false, CxE.no, []⟩
theorem fcC_si {E : Env} (h : E.ok) : SpecsOk Try.prog E (CxE.no) fcC_t (fun _ => none) := ⟨(fun t f h => by cases h), noI_ok _ _ _⟩
theorem fcC_x {E : Env} (h : E.ok) : CxEOk Try.prog E (CxE.no) := CxE.no_ok _ _
theorem fcC_cx (E : Env) (h : E.ok) (h1 : E.lo = 0) (h2 : E.hi = 1000000000000000) : Cx.ok fcC Try.prog E := ⟨tt_ok, qt_ok, bt_ok, fcC_si h, h, h1, h2, mixed_ok, fcC_x h⟩
theorem fcC_from (lo hi : Nat) (E : Env) (h : E.ok) (h1 : E.lo = lo) (h2 : E.hi = hi) : Cx.ok (Cx.from fcC lo hi) Try.prog E := ⟨tt_ok, qt_ok, bt_ok, fcC_si h, h, h1, h2, mixed_ok, fcC_x h⟩
theorem fcar_fn : hasFn Try.prog 37 := ⟨_, Try.func37, by rfl, by rfl⟩
theorem fcar_sp {E : Env} (hE : E.ok) : SpecOk Try.prog E 37 carSpF := by
 refine spec_of_vc (C := fcC) fcar_fn Try.func37 (by kernel_rfl) fcC_cx (fun x hl hx => ?_) hE
 obtain ⟨⟨a0, a1, a2, a3, a4, a5, a6, a7, a8, a9, a10, a11, a12, a13, a14, a15, ⟨⟩⟩, ⟨⟩⟩ := x
 have hx : LimF 9223372036854775808 (a0, a1, a2, a3, a4, a5, a6, a7, a8, a9, a10, a11, a12, a13, a14, a15, ()) := hx
 cbv
 (repeat' (first | ((with_reducible refine And.intro (fun h => ?_) (fun h => ?_)) <;> (first | with_reducible exact (tf h (by assumption)).elim | with_reducible exact (tf (by assumption) h).elim | cbv)) | ((with_reducible show JoinT (fun s K => vc _ (Code.region _ _ true) s K) _ _ _ _ _ _); (with_reducible apply JoinT.mg2); (focus (cbv; (repeat' (first | ((with_reducible refine And.intro (fun h => ?_) (fun h => ?_)) <;> (first | with_reducible exact (tf h (by assumption)).elim | with_reducible exact (tf (by assumption) h).elim | cbv)) | ((with_reducible first | refine Cb.mk ?_ | refine Lz.mk ?_ | refine JoinT.left ?_ | refine AllT.mk (fun x hx => ?_)); cbv) | ((with_reducible refine Ob.mk (fun _ => ?_) ?_); rotate_left 1) | (with_reducible first | refine Mg.mk (Exists.intro ?_ (And.intro ?_ ?_)) | rfl | refine Fin.mk ?_ | exact True.intro | refine And.intro ?_ ?_))); (all_goals (try (have du : Unit := (); have dv : Unit := (); first | exact Goes.self (Ex2.mk ⟨dv, du, trivial, trivial, rfl⟩) | exact Goes.self (Ex2.mk ⟨x, du, hx, trivial, rfl⟩) | (rename_i xa hxa; exact Goes.self (Ex2.mk ⟨xa, x, hxa, hx, rfl⟩))))); (all_goals (fail_if_success (with_reducible first | show Goes _ _ _ _ | show (∃ _, unr _ _ _ _ _ _))))))) | ((with_reducible first | refine Cb.mk ?_ | refine Lz.mk ?_ | refine JoinT.left ?_ | refine AllT.mk (fun x hx => ?_)); cbv) | ((with_reducible refine Ob.mk (fun _ => ?_) ?_); rotate_left 1) | (with_reducible first | refine Mg.mk (Exists.intro ?_ (And.intro ?_ ?_)) | rfl | refine Fin.mk ?_ | exact True.intro | refine And.intro ?_ ?_)))
 all_goals first | (with_reducible show (∃ _, unr _ _ _ _ _ _); skip) | (with_reducible show UnrI _ _ _ _ _; skip) | (with_reducible show Goes _ _ _ _; skip) | (with_reducible show JoinT _ _ _ _ _ _ _; skip) | (first | ((try dsimp only [Shp.D, Shp.Ds, Shp.dflt] at *); simp only [vem, veq, ne_eq, cmpI, arI, dvI, shI, SV.den, obLt, elemAt, obApp, partL, obPart, lowD, highD, mxOk, convL_self, zerosB, List.length_replicate, vln] at *; (try dsimp only [Shp.D, Shp.Ds, Shp.dflt, Shp.dflts] at *); done) | ((try dsimp only [Shp.D, Shp.Ds, Shp.dflt] at *); simp only [vem, veq, ne_eq, cmpI, arI, dvI, shI, SV.den, obLt, elemAt, obApp, partL, obPart, lowD, highD, mxOk, convL_self, zerosB, List.length_replicate, vln] at *; (try dsimp only [Shp.D, Shp.Ds, Shp.dflt, Shp.dflts] at *); omega) | (try ((try dsimp only [Shp.D, Shp.Ds, Shp.dflt] at *); simp only [vem, veq, ne_eq, cmpI, arI, dvI, shI, SV.den, obLt, elemAt, obApp, partL, obPart, lowD, highD, mxOk, convL_self, zerosB, List.length_replicate, vln] at *; (try dsimp only [Shp.D, Shp.Ds, Shp.dflt, Shp.dflts] at *))))
 with_reducible refine loop_hv [] (rangeN 4 28) [1000] [] (fun z b t y => 0 ≤ z 3 ∧ z 3 ≤ 3 ∧ CarI (z 3) [z 68096, z 68097, z 68098, z 68099, z 68100, z 68101, z 68102, z 68103, z 68104, z 68105, z 68106, z 68107, z 68108, z 68109, z 68110, z 68111] (valF (a0, a1, a2, a3, a4, a5, a6, a7, a8, a9, a10, a11, a12, a13, a14, a15, ()))) (fun z b t y => (3 - z 3).toNat) (by cbv) (by cbv) ?_ ?_ (fun z1 b1 t1 u1 y1 R1 hP1 hR1 => ?_)
 ·refine EndOk.mk (by cbv) (by cbv) (by cbv; repeat' (first | exact True.intro | exact rfl | with_reducible refine And.intro ?_ ?_)) (by cbv; repeat' (first | exact True.intro | exact rfl | with_reducible refine And.intro ?_ ?_)) (by cbv; repeat' (first | exact True.intro | exact rfl | with_reducible refine And.intro ?_ ?_))
 ·intro zq bq tq yq hUq
  have q3 := hUq.z 3
  cbv at q3
  replace q3 := q3.eq
  simp only [atI, vem, veq, ne_eq, cmpI, arI, dvI, shI, SV.den] at q3
  have q68096 := hUq.z 68096
  cbv at q68096
  replace q68096 := q68096.eq
  simp only [atI, vem, veq, ne_eq, cmpI, arI, dvI, shI, SV.den] at q68096
  have q68097 := hUq.z 68097
  cbv at q68097
  replace q68097 := q68097.eq
  simp only [atI, vem, veq, ne_eq, cmpI, arI, dvI, shI, SV.den] at q68097
  have q68098 := hUq.z 68098
  cbv at q68098
  replace q68098 := q68098.eq
  simp only [atI, vem, veq, ne_eq, cmpI, arI, dvI, shI, SV.den] at q68098
  have q68099 := hUq.z 68099
  cbv at q68099
  replace q68099 := q68099.eq
  simp only [atI, vem, veq, ne_eq, cmpI, arI, dvI, shI, SV.den] at q68099
  have q68100 := hUq.z 68100
  cbv at q68100
  replace q68100 := q68100.eq
  simp only [atI, vem, veq, ne_eq, cmpI, arI, dvI, shI, SV.den] at q68100
  have q68101 := hUq.z 68101
  cbv at q68101
  replace q68101 := q68101.eq
  simp only [atI, vem, veq, ne_eq, cmpI, arI, dvI, shI, SV.den] at q68101
  have q68102 := hUq.z 68102
  cbv at q68102
  replace q68102 := q68102.eq
  simp only [atI, vem, veq, ne_eq, cmpI, arI, dvI, shI, SV.den] at q68102
  have q68103 := hUq.z 68103
  cbv at q68103
  replace q68103 := q68103.eq
  simp only [atI, vem, veq, ne_eq, cmpI, arI, dvI, shI, SV.den] at q68103
  have q68104 := hUq.z 68104
  cbv at q68104
  replace q68104 := q68104.eq
  simp only [atI, vem, veq, ne_eq, cmpI, arI, dvI, shI, SV.den] at q68104
  have q68105 := hUq.z 68105
  cbv at q68105
  replace q68105 := q68105.eq
  simp only [atI, vem, veq, ne_eq, cmpI, arI, dvI, shI, SV.den] at q68105
  have q68106 := hUq.z 68106
  cbv at q68106
  replace q68106 := q68106.eq
  simp only [atI, vem, veq, ne_eq, cmpI, arI, dvI, shI, SV.den] at q68106
  have q68107 := hUq.z 68107
  cbv at q68107
  replace q68107 := q68107.eq
  simp only [atI, vem, veq, ne_eq, cmpI, arI, dvI, shI, SV.den] at q68107
  have q68108 := hUq.z 68108
  cbv at q68108
  replace q68108 := q68108.eq
  simp only [atI, vem, veq, ne_eq, cmpI, arI, dvI, shI, SV.den] at q68108
  have q68109 := hUq.z 68109
  cbv at q68109
  replace q68109 := q68109.eq
  simp only [atI, vem, veq, ne_eq, cmpI, arI, dvI, shI, SV.den] at q68109
  have q68110 := hUq.z 68110
  cbv at q68110
  replace q68110 := q68110.eq
  simp only [atI, vem, veq, ne_eq, cmpI, arI, dvI, shI, SV.den] at q68110
  have q68111 := hUq.z 68111
  cbv at q68111
  replace q68111 := q68111.eq
  simp only [atI, vem, veq, ne_eq, cmpI, arI, dvI, shI, SV.den] at q68111
  clear hUq
  try dsimp only [Shp.D, Shp.Ds, Shp.dflt] at *
  try simp only [vem, veq, ne_eq, cmpI, arI, dvI, shI, SV.den, convL_self] at *
  rw [← q3, ← q68096, ← q68097, ← q68098, ← q68099, ← q68100, ← q68101, ← q68102, ← q68103, ← q68104, ← q68105, ← q68106, ← q68107, ← q68108, ← q68109, ← q68110, ← q68111]
  exact ⟨by omega, by omega, ⟨rfl, Cg.refl _, hx, fun h => by omega, fun h => by omega, fun h => by omega⟩⟩
 obtain ⟨p1, p2, p3⟩ := hP1
 cbv
 (repeat' (first | ((with_reducible refine And.intro (fun h => ?_) (fun h => ?_)) <;> (first | with_reducible exact (tf h (by assumption)).elim | with_reducible exact (tf (by assumption) h).elim | cbv)) | ((with_reducible show JoinT (fun s K => vc _ (Code.region _ _ true) s K) _ _ _ _ _ _); (with_reducible apply JoinT.mg2); (focus (cbv; (repeat' (first | ((with_reducible refine And.intro (fun h => ?_) (fun h => ?_)) <;> (first | with_reducible exact (tf h (by assumption)).elim | with_reducible exact (tf (by assumption) h).elim | cbv)) | ((with_reducible first | refine Cb.mk ?_ | refine Lz.mk ?_ | refine JoinT.left ?_ | refine AllT.mk (fun x hx => ?_)); cbv) | ((with_reducible refine Ob.mk (fun _ => ?_) ?_); rotate_left 1) | (with_reducible first | refine Mg.mk (Exists.intro ?_ (And.intro ?_ ?_)) | rfl | refine Fin.mk ?_ | exact True.intro | refine And.intro ?_ ?_))); (all_goals (try (have du : Unit := (); have dv : Unit := (); first | exact Goes.self (Ex2.mk ⟨dv, du, trivial, trivial, rfl⟩) | exact Goes.self (Ex2.mk ⟨x, du, hx, trivial, rfl⟩) | (rename_i xa hxa; exact Goes.self (Ex2.mk ⟨xa, x, hxa, hx, rfl⟩))))); (all_goals (fail_if_success (with_reducible first | show Goes _ _ _ _ | show (∃ _, unr _ _ _ _ _ _))))))) | ((with_reducible first | refine Cb.mk ?_ | refine Lz.mk ?_ | refine JoinT.left ?_ | refine AllT.mk (fun x hx => ?_)); cbv) | ((with_reducible refine Ob.mk (fun _ => ?_) ?_); rotate_left 1) | (with_reducible first | refine Mg.mk (Exists.intro ?_ (And.intro ?_ ?_)) | rfl | refine Fin.mk ?_ | exact True.intro | refine And.intro ?_ ?_)))
 all_goals first | (with_reducible show (∃ _, unr _ _ _ _ _ _); skip) | (with_reducible show UnrI _ _ _ _ _; skip) | (with_reducible show Goes _ _ _ _; skip) | (with_reducible show JoinT _ _ _ _ _ _ _; skip) | (first | ((try dsimp only [Shp.D, Shp.Ds, Shp.dflt] at *); simp only [vem, veq, ne_eq, cmpI, arI, dvI, shI, SV.den, obLt, elemAt, obApp, partL, obPart, lowD, highD, mxOk, convL_self, zerosB, List.length_replicate, vln] at *; (try dsimp only [Shp.D, Shp.Ds, Shp.dflt, Shp.dflts] at *); done) | ((try dsimp only [Shp.D, Shp.Ds, Shp.dflt] at *); simp only [vem, veq, ne_eq, cmpI, arI, dvI, shI, SV.den, obLt, elemAt, obApp, partL, obPart, lowD, highD, mxOk, convL_self, zerosB, List.length_replicate, vln] at *; (try dsimp only [Shp.D, Shp.Ds, Shp.dflt, Shp.dflts] at *); omega) | (try ((try dsimp only [Shp.D, Shp.Ds, Shp.dflt] at *); simp only [vem, veq, ne_eq, cmpI, arI, dvI, shI, SV.den, obLt, elemAt, obApp, partL, obPart, lowD, highD, mxOk, convL_self, zerosB, List.length_replicate, vln] at *; (try dsimp only [Shp.D, Shp.Ds, Shp.dflt, Shp.dflts] at *))))
 refine ⟨17, ?_⟩
 cbv
 (repeat' (first | ((with_reducible refine And.intro (fun h => ?_) (fun h => ?_)) <;> (first | with_reducible exact (tf h (by assumption)).elim | with_reducible exact (tf (by assumption) h).elim | cbv)) | ((with_reducible show JoinT (fun s K => vc _ (Code.region _ _ true) s K) _ _ _ _ _ _); (with_reducible apply JoinT.mg2); (focus (cbv; (repeat' (first | ((with_reducible refine And.intro (fun h => ?_) (fun h => ?_)) <;> (first | with_reducible exact (tf h (by assumption)).elim | with_reducible exact (tf (by assumption) h).elim | cbv)) | ((with_reducible first | refine Cb.mk ?_ | refine Lz.mk ?_ | refine JoinT.left ?_ | refine AllT.mk (fun x hx => ?_)); cbv) | ((with_reducible refine Ob.mk (fun _ => ?_) ?_); rotate_left 1) | (with_reducible first | refine Mg.mk (Exists.intro ?_ (And.intro ?_ ?_)) | rfl | refine Fin.mk ?_ | exact True.intro | refine And.intro ?_ ?_))); (all_goals (try (have du : Unit := (); have dv : Unit := (); first | exact Goes.self (Ex2.mk ⟨dv, du, trivial, trivial, rfl⟩) | exact Goes.self (Ex2.mk ⟨x, du, hx, trivial, rfl⟩) | (rename_i xa hxa; exact Goes.self (Ex2.mk ⟨xa, x, hxa, hx, rfl⟩))))); (all_goals (fail_if_success (with_reducible first | show Goes _ _ _ _ | show (∃ _, unr _ _ _ _ _ _))))))) | ((with_reducible first | refine Cb.mk ?_ | refine Lz.mk ?_ | refine JoinT.left ?_ | refine AllT.mk (fun x hx => ?_)); cbv) | ((with_reducible refine Ob.mk (fun _ => ?_) ?_); rotate_left 1) | (with_reducible first | refine Mg.mk (Exists.intro ?_ (And.intro ?_ ?_)) | rfl | refine Fin.mk ?_ | exact True.intro | refine And.intro ?_ ?_)))
 all_goals first
  | (exfalso; ((try dsimp only [Shp.D, Shp.Ds, Shp.dflt] at *); simp only [vem, veq, ne_eq, cmpI, arI, dvI, shI, SV.den, obLt, elemAt, obApp, partL, obPart, lowD, highD, mxOk, convL_self, zerosB, List.length_replicate, vln] at *; (try dsimp only [Shp.D, Shp.Ds, Shp.dflt, Shp.dflts] at *)); omega)
  | skip
 all_goals first
  | (with_reducible show Goes _ _ _ _
     (((with_reducible refine hR1 _ ?_ (fun zq bq tq yq hUq => ?_)); (focus (refine EndOk.mk (by cbv) (by cbv) (by cbv; repeat' (first | exact True.intro | exact rfl | with_reducible refine And.intro ?_ ?_)) (by cbv; repeat' (first | exact True.intro | exact rfl | with_reducible refine And.intro ?_ ?_)) (by cbv; repeat' (first | exact True.intro | exact rfl | with_reducible refine And.intro ?_ ?_)))); (have q3 := hUq.z 3); (cbv at q3); (replace q3 := q3.eq); (simp only [atI, vem, veq, ne_eq, cmpI, arI, dvI, shI, SV.den] at q3); (have q68096 := hUq.z 68096); (cbv at q68096); (replace q68096 := q68096.eq); (simp only [atI, vem, veq, ne_eq, cmpI, arI, dvI, shI, SV.den] at q68096); (have q68097 := hUq.z 68097); (cbv at q68097); (replace q68097 := q68097.eq); (simp only [atI, vem, veq, ne_eq, cmpI, arI, dvI, shI, SV.den] at q68097); (have q68098 := hUq.z 68098); (cbv at q68098); (replace q68098 := q68098.eq); (simp only [atI, vem, veq, ne_eq, cmpI, arI, dvI, shI, SV.den] at q68098); (have q68099 := hUq.z 68099); (cbv at q68099); (replace q68099 := q68099.eq); (simp only [atI, vem, veq, ne_eq, cmpI, arI, dvI, shI, SV.den] at q68099); (have q68100 := hUq.z 68100); (cbv at q68100); (replace q68100 := q68100.eq); (simp only [atI, vem, veq, ne_eq, cmpI, arI, dvI, shI, SV.den] at q68100); (have q68101 := hUq.z 68101); (cbv at q68101); (replace q68101 := q68101.eq); (simp only [atI, vem, veq, ne_eq, cmpI, arI, dvI, shI, SV.den] at q68101); (have q68102 := hUq.z 68102); (cbv at q68102); (replace q68102 := q68102.eq); (simp only [atI, vem, veq, ne_eq, cmpI, arI, dvI, shI, SV.den] at q68102); (have q68103 := hUq.z 68103); (cbv at q68103); (replace q68103 := q68103.eq); (simp only [atI, vem, veq, ne_eq, cmpI, arI, dvI, shI, SV.den] at q68103); (have q68104 := hUq.z 68104); (cbv at q68104); (replace q68104 := q68104.eq); (simp only [atI, vem, veq, ne_eq, cmpI, arI, dvI, shI, SV.den] at q68104); (have q68105 := hUq.z 68105); (cbv at q68105); (replace q68105 := q68105.eq); (simp only [atI, vem, veq, ne_eq, cmpI, arI, dvI, shI, SV.den] at q68105); (have q68106 := hUq.z 68106); (cbv at q68106); (replace q68106 := q68106.eq); (simp only [atI, vem, veq, ne_eq, cmpI, arI, dvI, shI, SV.den] at q68106); (have q68107 := hUq.z 68107); (cbv at q68107); (replace q68107 := q68107.eq); (simp only [atI, vem, veq, ne_eq, cmpI, arI, dvI, shI, SV.den] at q68107); (have q68108 := hUq.z 68108); (cbv at q68108); (replace q68108 := q68108.eq); (simp only [atI, vem, veq, ne_eq, cmpI, arI, dvI, shI, SV.den] at q68108); (have q68109 := hUq.z 68109); (cbv at q68109); (replace q68109 := q68109.eq); (simp only [atI, vem, veq, ne_eq, cmpI, arI, dvI, shI, SV.den] at q68109); (have q68110 := hUq.z 68110); (cbv at q68110); (replace q68110 := q68110.eq); (simp only [atI, vem, veq, ne_eq, cmpI, arI, dvI, shI, SV.den] at q68110); (have q68111 := hUq.z 68111); (cbv at q68111); (replace q68111 := q68111.eq); (simp only [atI, vem, veq, ne_eq, cmpI, arI, dvI, shI, SV.den] at q68111); (clear hUq hR1); (try dsimp only [Shp.D, Shp.Ds, Shp.dflt] at *); (try simp only [vem, veq, ne_eq, cmpI, arI, dvI, shI, SV.den, elemAt, convL_self] at *); (try dsimp only [Shp.D, Shp.Ds, Shp.dflt, Shp.dflts] at *))); (try ((try dsimp only [Shp.D, Shp.Ds, Shp.dflt] at *); simp only [vem, veq, ne_eq, cmpI, arI, dvI, shI, SV.den, obLt, elemAt, obApp, partL, obPart, lowD, highD, mxOk, convL_self, zerosB, List.length_replicate, vln] at *; (try dsimp only [Shp.D, Shp.Ds, Shp.dflt, Shp.dflts] at *)))
     refine ⟨⟨by omega, by omega, ?_⟩, by omega⟩
     have hc := car_stepr (kq := zq 3) p3 p1 h (by omega)
     simp only [carNr, carUr, addHr] at hc
     rw [← q68096, ← q68097, ← q68098, ← q68099, ← q68100, ← q68101, ← q68102, ← q68103, ← q68104, ← q68105, ← q68106, ← q68107, ← q68108, ← q68109, ← q68110, ← q68111]
     exact hc)
  | ((try ((try dsimp only [Shp.D, Shp.Ds, Shp.dflt] at *); simp only [vem, veq, ne_eq, cmpI, arI, dvI, shI, SV.den, obLt, elemAt, obApp, partL, obPart, lowD, highD, mxOk, convL_self, zerosB, List.length_replicate, vln] at *; (try dsimp only [Shp.D, Shp.Ds, Shp.dflt, Shp.dflts] at *))); (have e3 : z1 3 = 3 := by omega); rw [e3] at p3; first | exact p3.k3 (by decide) | exact p3.cg)
end Go.Proofs.Ytihnagafldpbnaa.V
