/- ref14: reduce. -/
import Derived.Test.YtihnagafldpbnaaVQb
set_option linter.unusedVariables false
set_option linter.unusedSimpArgs false
namespace Go.Proofs.Ytihnagafldpbnaa.V
open Go.RowKit
set_option maxHeartbeats 80000000
set_option maxRecDepth 100000
structure RedI (k : Int) (l : List Int) (v : Int) : Prop where
 len : l.length = 16
 lim : LimL 65536 l
 cg : Cg (v16 l) v
 lt : v16 l < 57896044618658097711785492504343953926634992332820282019728792003956564819949 ∨ v16 l + k * 57896044618658097711785492504343953926634992332820282019728792003956564819949 < 115792089237316195423570985008687907853269984665640564039457584007913129639936
theorem red_end {l : List Int} {v k : Int} (hk : k = 3) (h : RedI k l v) : v16 l = v % 57896044618658097711785492504343953926634992332820282019728792003956564819949 := by
 subst hk
 have h0 := v16_nn h.lim
 have h1 := h.lt
 have h2 := h.cg.emod
 rw [← h2, Int.emod_eq_of_lt h0 (by omega)]
theorem v16_l (n0 n1 n2 n3 n4 n5 n6 n7 n8 n9 n10 n11 n12 n13 n14 n15 : Int) : v16 [n0, n1, n2, n3, n4, n5, n6, n7, n8, n9, n10, n11, n12, n13, n14, n15] = n0 + 65536 * n1 + 4294967296 * n2 + 281474976710656 * n3 + 18446744073709551616 * n4 + 1208925819614629174706176 * n5 + 79228162514264337593543950336 * n6 + 5192296858534827628530496329220096 * n7 + 340282366920938463463374607431768211456 * n8 + 22300745198530623141535718272648361505980416 * n9 + 1461501637330902918203684832716283019655932542976 * n10 + 95780971304118053647396689196894323976171195136475136 * n11 + 6277101735386680763835789423207666416102355444464034512896 * n12 + 411376139330301510538742295639337626245683966408394965837152256 * n13 + 26959946667150639794667015087019630673637144422540572481103610249216 * n14 + 1766847064778384329583297500742918515827483896875618958121606201292619776 * n15 := by
 simp only [v16]
 omega
theorem lim_l {n0 n1 n2 n3 n4 n5 n6 n7 n8 n9 n10 n11 n12 n13 n14 n15 x : Int} (h : LimL 65536 [n0, n1, n2, n3, n4, n5, n6, n7, n8, n9, n10, n11, n12, n13, n14, n15]) (hx : 0 ≤ x ∧ x < 65536) : LimL 65536 [n0, n1, n2, n3, n4, n5, n6, n7, n8, n9, n10, n11, n12, n13, n14, x] := by
 have h := h.all
 simp only [List.mem_cons, List.not_mem_nil, or_false, forall_eq_or_imp, forall_eq] at h
 obtain ⟨h0, h1, h2, h3, h4, h5, h6, h7, h8, h9, h10, h11, h12, h13, h14, h15⟩ := h
 refine ⟨?_⟩
 simp only [List.mem_cons, List.not_mem_nil, or_false, forall_eq_or_imp, forall_eq]
 exact ⟨h0, h1, h2, h3, h4, h5, h6, h7, h8, h9, h10, h11, h12, h13, h14, hx⟩
theorem lim_15 {n0 n1 n2 n3 n4 n5 n6 n7 n8 n9 n10 n11 n12 n13 n14 n15 : Int} (h : LimL 65536 [n0, n1, n2, n3, n4, n5, n6, n7, n8, n9, n10, n11, n12, n13, n14, n15]) : 0 ≤ n15 ∧ n15 < 65536 := h.all n15 (by simp)
theorem red_vals {k : Int} {l : List Int} {v : Int} (h : RedI k l v) {n0 n1 n2 n3 n4 n5 n6 n7 n8 n9 n10 n11 n12 n13 n14 n15 u : Int} (hN : carNr 19 l = [n0, n1, n2, n3, n4, n5, n6, n7, n8, n9, n10, n11, n12, n13, n14, n15]) (hU : carUr 19 l = u) : LimL 65536 [n0, n1, n2, n3, n4, n5, n6, n7, n8, n9, n10, n11, n12, n13, n14, n15] ∧ v16 [n0, n1, n2, n3, n4, n5, n6, n7, n8, n9, n10, n11, n12, n13, n14, n15] + 115792089237316195423570985008687907853269984665640564039457584007913129639936 * u = 19 + v16 l ∧ 0 ≤ v16 l ∧ v16 l < 115792089237316195423570985008687907853269984665640564039457584007913129639936 ∧ 0 ≤ v16 [n0, n1, n2, n3, n4, n5, n6, n7, n8, n9, n10, n11, n12, n13, n14, n15] ∧ 0 ≤ u := by
 have hl := h.lim.up (show (65536 : Int) ≤ 9223372036854775808 by decide)
 obtain ⟨r1, r2⟩ := carNr_eq (u := 19) (by decide) hl
 rw [r1] at hN
 rw [r2] at hU
 have hn := carN_lim l 19
 have hv := carN_val l 19
 have hu := carU_lim (u := 19) (by decide) hl
 have hb := v16_lim h.lim
 rw [h.len] at hv hb
 rw [show (65536 : Int) ^ 16 = 115792089237316195423570985008687907853269984665640564039457584007913129639936 from by decide] at hv hb
 rw [hN] at hn hv
 rw [hU] at hv hu
 exact ⟨hn, hv, hb.1, hb.2, v16_nn hn, hu.1⟩
theorem red_up {k kq : Int} {l : List Int} {v : Int} (h : RedI k l v) (hk : kq = k + 1) (h0 : 0 ≤ k) {n0 n1 n2 n3 n4 n5 n6 n7 n8 n9 n10 n11 n12 n13 n14 n15 u : Int} (hN : carNr 19 l = [n0, n1, n2, n3, n4, n5, n6, n7, n8, n9, n10, n11, n12, n13, n14, n15]) (hU : carUr 19 l = u) (hu : u > 0) : RedI kq [n0, n1, n2, n3, n4, n5, n6, n7, n8, n9, n10, n11, n12, n13, n14, IntKind.u64.wrap (IntKind.u64.wrap (n15 - IntKind.u64.wrap (32768 * IntKind.u64.wrap (1 - u))) + 32768)] v := by
 obtain ⟨hn, hv, h1, h2, h3, h4⟩ := red_vals h hN hU
 have h15 := lim_15 hn
 have e := v16_l n0 n1 n2 n3 n4 n5 n6 n7 n8 n9 n10 n11 n12 n13 n14 n15
 have hu1 : u = 1 := by omega
 have hz := hn.tl.tl.tl.tl.tl.tl.tl.tl.tl.tl.tl.tl.tl.tl.tl.tl
 have a0 := (v16_nn hn)
 have hall := hn.all
 simp only [List.mem_cons, List.not_mem_nil, or_false, forall_eq_or_imp, forall_eq] at hall
 have n15z : n15 = 0 := by omega
 have ex : IntKind.u64.wrap (IntKind.u64.wrap (n15 - IntKind.u64.wrap (32768 * IntKind.u64.wrap (1 - u))) + 32768) = 32768 := by
  rw [hu1, n15z]
  decide
 rw [ex]
 have e' := v16_l n0 n1 n2 n3 n4 n5 n6 n7 n8 n9 n10 n11 n12 n13 n14 32768
 subst hk
 refine ⟨rfl, lim_l hn (by decide), h.cg.symm.symm.trans (Cg.refl _) |> fun _ => ?_, ?_⟩
 ·refine Cg.trans ⟨-1, ?_⟩ h.cg
  omega
 ·have := h.lt
  rw [Int.add_mul]
  omega
theorem red_mid {k kq : Int} {l : List Int} {v : Int} (h : RedI k l v) (hk : kq = k + 1) (h0 : 0 ≤ k) {n0 n1 n2 n3 n4 n5 n6 n7 n8 n9 n10 n11 n12 n13 n14 n15 u : Int} (hN : carNr 19 l = [n0, n1, n2, n3, n4, n5, n6, n7, n8, n9, n10, n11, n12, n13, n14, n15]) (hU : carUr 19 l = u) (hu : ¬ u > 0) (h9 : n15 ≥ 32768) : RedI kq [n0, n1, n2, n3, n4, n5, n6, n7, n8, n9, n10, n11, n12, n13, n14, IntKind.u64.wrap (n15 - IntKind.u64.wrap (32768 * IntKind.u64.wrap (1 - u)))] v := by
 obtain ⟨hn, hv, h1, h2, h3, h4⟩ := red_vals h hN hU
 have h15 := lim_15 hn
 have e := v16_l n0 n1 n2 n3 n4 n5 n6 n7 n8 n9 n10 n11 n12 n13 n14 n15
 have hu1 : u = 0 := by omega
 have ex : IntKind.u64.wrap (n15 - IntKind.u64.wrap (32768 * IntKind.u64.wrap (1 - u))) = n15 - 32768 := by
  rw [hu1, show IntKind.u64.wrap (32768 * IntKind.u64.wrap (1 - 0)) = 32768 from by decide, wru (by omega)]
 rw [ex]
 have e' := v16_l n0 n1 n2 n3 n4 n5 n6 n7 n8 n9 n10 n11 n12 n13 n14 (n15 - 32768)
 subst hk
 refine ⟨rfl, lim_l hn (by omega), ?_, ?_⟩
 ·refine Cg.trans ⟨-1, ?_⟩ h.cg
  omega
 ·have := h.lt
  rw [Int.add_mul]
  omega
theorem red_no {k kq : Int} {l : List Int} {v : Int} (h : RedI k l v) (hk : kq = k + 1) (h0 : 0 ≤ k) {n0 n1 n2 n3 n4 n5 n6 n7 n8 n9 n10 n11 n12 n13 n14 n15 u : Int} (hN : carNr 19 l = [n0, n1, n2, n3, n4, n5, n6, n7, n8, n9, n10, n11, n12, n13, n14, n15]) (hU : carUr 19 l = u) (hu : ¬ u > 0) (h9 : ¬ n15 ≥ 32768) : RedI kq l v := by
 obtain ⟨hn, hv, h1, h2, h3, h4⟩ := red_vals h hN hU
 have h15 := lim_15 hn
 have e := v16_l n0 n1 n2 n3 n4 n5 n6 n7 n8 n9 n10 n11 n12 n13 n14 n15
 have hall := hn.all
 simp only [List.mem_cons, List.not_mem_nil, or_false, forall_eq_or_imp, forall_eq] at hall
 subst hk
 exact ⟨h.len, h.lim, h.cg, Or.inl (by omega)⟩
abbrev redSpF : Spec := fnSpec [fE] [fE] [] (fun (x : Shp.Ds [fE]) => LimF 65536 x.1) fun (x : Shp.Ds [fE]) (y : Shp.Ds [fE]) => LimF 65536 y.1 ∧ valF y.1 = valF x.1 % 57896044618658097711785492504343953926634992332820282019728792003956564819949
def frC_t : SpecT := lf0 37 (carSpF)
def frC : Cx := ⟨tt, qt, bt, st, frC_t, 0, 1000000000000000, fun _ => none, false, CxE.no, []⟩
theorem frC_si {E : Env} (h : E.ok) : SpecsOk Try.prog E (CxE.no) frC_t (fun _ => none) := ⟨(lf0_ok (.inl (fcar_sp h))), noI_ok _ _ _⟩
theorem frC_x {E : Env} (h : E.ok) : CxEOk Try.prog E (CxE.no) := CxE.no_ok _ _
theorem frC_cx (E : Env) (h : E.ok) (h1 : E.lo = 0) (h2 : E.hi = 1000000000000000) : Cx.ok frC Try.prog E := ⟨tt_ok, qt_ok, bt_ok, frC_si h, h, h1, h2, mixed_ok, frC_x h⟩
theorem frC_from (lo hi : Nat) (E : Env) (h : E.ok) (h1 : E.lo = lo) (h2 : E.hi = hi) : Cx.ok (Cx.from frC lo hi) Try.prog E := ⟨tt_ok, qt_ok, bt_ok, frC_si h, h, h1, h2, mixed_ok, frC_x h⟩
theorem fred_fn : hasFn Try.prog 29 := ⟨_, Try.func29, by rfl, by rfl⟩
theorem fred_sp {E : Env} (hE : E.ok) : SpecOk Try.prog E 29 redSpF := by
 refine spec_of_vc (C := frC) fred_fn Try.func29 (by kernel_rfl) frC_cx (fun x hl hx => ?_) hE
 obtain ⟨⟨a0, a1, a2, a3, a4, a5, a6, a7, a8, a9, a10, a11, a12, a13, a14, a15, ⟨⟩⟩, ⟨⟩⟩ := x
 have ha : LimF 65536 (a0, a1, a2, a3, a4, a5, a6, a7, a8, a9, a10, a11, a12, a13, a14, a15, ()) := hx
 cbv
 (repeat' (first | ((with_reducible refine And.intro (fun h => ?_) (fun h => ?_)) <;> (first | with_reducible exact (tf h (by assumption)).elim | with_reducible exact (tf (by assumption) h).elim | cbv)) | ((with_reducible show JoinT (fun s K => vc _ (Code.region _ _ true) s K) _ _ _ _ _ _); (with_reducible apply JoinT.mg2); (focus (cbv; (repeat' (first | ((with_reducible refine And.intro (fun h => ?_) (fun h => ?_)) <;> (first | with_reducible exact (tf h (by assumption)).elim | with_reducible exact (tf (by assumption) h).elim | cbv)) | ((with_reducible first | refine Cb.mk ?_ | refine Lz.mk ?_ | refine JoinT.left ?_ | refine AllT.mk (fun x hx => ?_)); cbv) | ((with_reducible refine Ob.mk (fun _ => ?_) ?_); rotate_left 1) | (with_reducible first | refine Mg.mk (Exists.intro ?_ (And.intro ?_ ?_)) | rfl | refine Fin.mk ?_ | exact True.intro | refine And.intro ?_ ?_))); (all_goals (try (have du : Unit := (); have dv : Unit := (); first | exact Goes.self (Ex2.mk ⟨dv, du, trivial, trivial, rfl⟩) | exact Goes.self (Ex2.mk ⟨x, du, hx, trivial, rfl⟩) | (rename_i xa hxa; exact Goes.self (Ex2.mk ⟨xa, x, hxa, hx, rfl⟩))))); (all_goals (fail_if_success (with_reducible first | show Goes _ _ _ _ | show (∃ _, unr _ _ _ _ _ _))))))) | ((with_reducible first | refine Cb.mk ?_ | refine Lz.mk ?_ | refine JoinT.left ?_ | refine AllT.mk (fun x hx => ?_)); cbv) | ((with_reducible refine Ob.mk (fun _ => ?_) ?_); rotate_left 1) | (with_reducible first | refine Mg.mk (Exists.intro ?_ (And.intro ?_ ?_)) | rfl | refine Fin.mk ?_ | exact True.intro | refine And.intro ?_ ?_)))
 all_goals first | (with_reducible show (∃ _, unr _ _ _ _ _ _); skip) | (with_reducible show UnrI _ _ _ _ _; skip) | (with_reducible show Goes _ _ _ _; skip) | (with_reducible show JoinT _ _ _ _ _ _ _; skip) | (first | ((try dsimp only [Shp.D, Shp.Ds, Shp.dflt] at *); simp only [vem, veq, ne_eq, cmpI, arI, dvI, shI, SV.den, obLt, elemAt, obApp, partL, obPart, lowD, highD, mxOk, convL_self, zerosB, List.length_replicate, vln] at *; (try dsimp only [Shp.D, Shp.Ds, Shp.dflt, Shp.dflts] at *); done) | ((try dsimp only [Shp.D, Shp.Ds, Shp.dflt] at *); simp only [vem, veq, ne_eq, cmpI, arI, dvI, shI, SV.den, obLt, elemAt, obApp, partL, obPart, lowD, highD, mxOk, convL_self, zerosB, List.length_replicate, vln] at *; (try dsimp only [Shp.D, Shp.Ds, Shp.dflt, Shp.dflts] at *); omega) | ((try dsimp only [Shp.D, Shp.Ds, Shp.dflt] at *); simp only [vem, veq, ne_eq, cmpI, arI, dvI, shI, SV.den, obLt, elemAt, obApp, partL, obPart, lowD, highD, mxOk, convL_self, zerosB, List.length_replicate, vln] at *; (try dsimp only [Shp.D, Shp.Ds, Shp.dflt, Shp.dflts] at *); exact ha.up (by decide)) | (try ((try dsimp only [Shp.D, Shp.Ds, Shp.dflt] at *); simp only [vem, veq, ne_eq, cmpI, arI, dvI, shI, SV.den, obLt, elemAt, obApp, partL, obPart, lowD, highD, mxOk, convL_self, zerosB, List.length_replicate, vln] at *; (try dsimp only [Shp.D, Shp.Ds, Shp.dflt, Shp.dflts] at *))))
 obtain ⟨e1, he1⟩ : ∃ e, e = x := ⟨x, rfl⟩
 subst he1
 have hE1 := hx
 with_reducible refine loop_hv [] (rangeN 4 46) [1000] [] (fun z b t y => 0 ≤ z 3 ∧ z 3 ≤ 3 ∧ RedI (z 3) [z 68096, z 68097, z 68098, z 68099, z 68100, z 68101, z 68102, z 68103, z 68104, z 68105, z 68106, z 68107, z 68108, z 68109, z 68110, z 68111] (valF (a0, a1, a2, a3, a4, a5, a6, a7, a8, a9, a10, a11, a12, a13, a14, a15, ()))) (fun z b t y => (3 - z 3).toNat) (by cbv) (by cbv) ?_ ?_ (fun z1 b1 t1 u1 y1 R1 hP1 hR1 => ?_)
 ·refine EndOk.mk (by cbv) (by cbv) (by cbv; repeat' (first | exact True.intro | exact rfl | with_reducible refine And.intro ?_ ?_)) (by cbv; repeat' (first | exact True.intro | exact rfl | with_reducible refine And.intro ?_ ?_)) (by cbv; repeat' (first | exact True.intro | exact rfl | with_reducible refine And.intro ?_ ?_))
 ·intro zq bq tq yq hUq
  have q3 := hUq.z 3
  cbv at q3
  replace q3 := q3.eq
  simp only [atI, vem, veq, ne_eq, cmpI, arI, dvI, shI, SV.den] at q3
  have q68096 := hUq.z 68096
  cbv at q68096
  replace q68096 := q68096.eq
  simp only [atI, vem, veq, ne_eq, cmpI, arI, dvI, shI, SV.den] at q68096
  have q68097 := hUq.z 68097
  cbv at q68097
  replace q68097 := q68097.eq
  simp only [atI, vem, veq, ne_eq, cmpI, arI, dvI, shI, SV.den] at q68097
  have q68098 := hUq.z 68098
  cbv at q68098
  replace q68098 := q68098.eq
  simp only [atI, vem, veq, ne_eq, cmpI, arI, dvI, shI, SV.den] at q68098
  have q68099 := hUq.z 68099
  cbv at q68099
  replace q68099 := q68099.eq
  simp only [atI, vem, veq, ne_eq, cmpI, arI, dvI, shI, SV.den] at q68099
  have q68100 := hUq.z 68100
  cbv at q68100
  replace q68100 := q68100.eq
  simp only [atI, vem, veq, ne_eq, cmpI, arI, dvI, shI, SV.den] at q68100
  have q68101 := hUq.z 68101
  cbv at q68101
  replace q68101 := q68101.eq
  simp only [atI, vem, veq, ne_eq, cmpI, arI, dvI, shI, SV.den] at q68101
  have q68102 := hUq.z 68102
  cbv at q68102
  replace q68102 := q68102.eq
  simp only [atI, vem, veq, ne_eq, cmpI, arI, dvI, shI, SV.den] at q68102
  have q68103 := hUq.z 68103
  cbv at q68103
  replace q68103 := q68103.eq
  simp only [atI, vem, veq, ne_eq, cmpI, arI, dvI, shI, SV.den] at q68103
  have q68104 := hUq.z 68104
  cbv at q68104
  replace q68104 := q68104.eq
  simp only [atI, vem, veq, ne_eq, cmpI, arI, dvI, shI, SV.den] at q68104
  have q68105 := hUq.z 68105
  cbv at q68105
  replace q68105 := q68105.eq
  simp only [atI, vem, veq, ne_eq, cmpI, arI, dvI, shI, SV.den] at q68105
  have q68106 := hUq.z 68106
  cbv at q68106
  replace q68106 := q68106.eq
  simp only [atI, vem, veq, ne_eq, cmpI, arI, dvI, shI, SV.den] at q68106
  have q68107 := hUq.z 68107
  cbv at q68107
  replace q68107 := q68107.eq
  simp only [atI, vem, veq, ne_eq, cmpI, arI, dvI, shI, SV.den] at q68107
  have q68108 := hUq.z 68108
  cbv at q68108
  replace q68108 := q68108.eq
  simp only [atI, vem, veq, ne_eq, cmpI, arI, dvI, shI, SV.den] at q68108
  have q68109 := hUq.z 68109
  cbv at q68109
  replace q68109 := q68109.eq
  simp only [atI, vem, veq, ne_eq, cmpI, arI, dvI, shI, SV.den] at q68109
  have q68110 := hUq.z 68110
  cbv at q68110
  replace q68110 := q68110.eq
  simp only [atI, vem, veq, ne_eq, cmpI, arI, dvI, shI, SV.den] at q68110
  have q68111 := hUq.z 68111
  cbv at q68111
  replace q68111 := q68111.eq
  simp only [atI, vem, veq, ne_eq, cmpI, arI, dvI, shI, SV.den] at q68111
  clear hUq
  try dsimp only [Shp.D, Shp.Ds, Shp.dflt] at *
  try simp only [vem, veq, ne_eq, cmpI, arI, dvI, shI, SV.den, convL_self] at *
  rw [← q3, ← q68096, ← q68097, ← q68098, ← q68099, ← q68100, ← q68101, ← q68102, ← q68103, ← q68104, ← q68105, ← q68106, ← q68107, ← q68108, ← q68109, ← q68110, ← q68111]
  have hv := v16_lim hE1.1.1
  exact ⟨by omega, by omega, ⟨rfl, hE1.1.1, hE1.1.2, Or.inr (by rw [show (ls16 e1.1).length = 16 from rfl, show (65536 : Int) ^ 16 = 115792089237316195423570985008687907853269984665640564039457584007913129639936 from by decide] at hv; unfold ls16 at hv; omega)⟩⟩
 obtain ⟨p1, p2, p3⟩ := hP1
 cbv
 (repeat' (first | ((with_reducible refine And.intro (fun h => ?_) (fun h => ?_)) <;> (first | with_reducible exact (tf h (by assumption)).elim | with_reducible exact (tf (by assumption) h).elim | cbv)) | ((with_reducible show JoinT (fun s K => vc _ (Code.region _ _ true) s K) _ _ _ _ _ _); (with_reducible apply JoinT.mg2); (focus (cbv; (repeat' (first | ((with_reducible refine And.intro (fun h => ?_) (fun h => ?_)) <;> (first | with_reducible exact (tf h (by assumption)).elim | with_reducible exact (tf (by assumption) h).elim | cbv)) | ((with_reducible first | refine Cb.mk ?_ | refine Lz.mk ?_ | refine JoinT.left ?_ | refine AllT.mk (fun x hx => ?_)); cbv) | ((with_reducible refine Ob.mk (fun _ => ?_) ?_); rotate_left 1) | (with_reducible first | refine Mg.mk (Exists.intro ?_ (And.intro ?_ ?_)) | rfl | refine Fin.mk ?_ | exact True.intro | refine And.intro ?_ ?_))); (all_goals (try (have du : Unit := (); have dv : Unit := (); first | exact Goes.self (Ex2.mk ⟨dv, du, trivial, trivial, rfl⟩) | exact Goes.self (Ex2.mk ⟨x, du, hx, trivial, rfl⟩) | (rename_i xa hxa; exact Goes.self (Ex2.mk ⟨xa, x, hxa, hx, rfl⟩))))); (all_goals (fail_if_success (with_reducible first | show Goes _ _ _ _ | show (∃ _, unr _ _ _ _ _ _))))))) | ((with_reducible first | refine Cb.mk ?_ | refine Lz.mk ?_ | refine JoinT.left ?_ | refine AllT.mk (fun x hx => ?_)); cbv) | ((with_reducible refine Ob.mk (fun _ => ?_) ?_); rotate_left 1) | (with_reducible first | refine Mg.mk (Exists.intro ?_ (And.intro ?_ ?_)) | rfl | refine Fin.mk ?_ | exact True.intro | refine And.intro ?_ ?_)))
 all_goals first | (with_reducible show (∃ _, unr _ _ _ _ _ _); skip) | (with_reducible show UnrI _ _ _ _ _; skip) | (with_reducible show Goes _ _ _ _; skip) | (with_reducible show JoinT _ _ _ _ _ _ _; skip) | (first | ((try dsimp only [Shp.D, Shp.Ds, Shp.dflt] at *); simp only [vem, veq, ne_eq, cmpI, arI, dvI, shI, SV.den, obLt, elemAt, obApp, partL, obPart, lowD, highD, mxOk, convL_self, zerosB, List.length_replicate, vln] at *; (try dsimp only [Shp.D, Shp.Ds, Shp.dflt, Shp.dflts] at *); done) | ((try dsimp only [Shp.D, Shp.Ds, Shp.dflt] at *); simp only [vem, veq, ne_eq, cmpI, arI, dvI, shI, SV.den, obLt, elemAt, obApp, partL, obPart, lowD, highD, mxOk, convL_self, zerosB, List.length_replicate, vln] at *; (try dsimp only [Shp.D, Shp.Ds, Shp.dflt, Shp.dflts] at *); omega) | (try ((try dsimp only [Shp.D, Shp.Ds, Shp.dflt] at *); simp only [vem, veq, ne_eq, cmpI, arI, dvI, shI, SV.den, obLt, elemAt, obApp, partL, obPart, lowD, highD, mxOk, convL_self, zerosB, List.length_replicate, vln] at *; (try dsimp only [Shp.D, Shp.Ds, Shp.dflt, Shp.dflts] at *))))
 refine ⟨17, ?_⟩
 cbv
 (repeat' (first | ((with_reducible refine And.intro (fun h => ?_) (fun h => ?_)) <;> (first | with_reducible exact (tf h (by assumption)).elim | with_reducible exact (tf (by assumption) h).elim | cbv)) | ((with_reducible show JoinT (fun s K => vc _ (Code.region _ _ true) s K) _ _ _ _ _ _); (with_reducible apply JoinT.mg2); (focus (cbv; (repeat' (first | ((with_reducible refine And.intro (fun h => ?_) (fun h => ?_)) <;> (first | with_reducible exact (tf h (by assumption)).elim | with_reducible exact (tf (by assumption) h).elim | cbv)) | ((with_reducible first | refine Cb.mk ?_ | refine Lz.mk ?_ | refine JoinT.left ?_ | refine AllT.mk (fun x hx => ?_)); cbv) | ((with_reducible refine Ob.mk (fun _ => ?_) ?_); rotate_left 1) | (with_reducible first | refine Mg.mk (Exists.intro ?_ (And.intro ?_ ?_)) | rfl | refine Fin.mk ?_ | exact True.intro | refine And.intro ?_ ?_))); (all_goals (try (have du : Unit := (); have dv : Unit := (); first | exact Goes.self (Ex2.mk ⟨dv, du, trivial, trivial, rfl⟩) | exact Goes.self (Ex2.mk ⟨x, du, hx, trivial, rfl⟩) | (rename_i xa hxa; exact Goes.self (Ex2.mk ⟨xa, x, hxa, hx, rfl⟩))))); (all_goals (fail_if_success (with_reducible first | show Goes _ _ _ _ | show (∃ _, unr _ _ _ _ _ _))))))) | ((with_reducible first | refine Cb.mk ?_ | refine Lz.mk ?_ | refine JoinT.left ?_ | refine AllT.mk (fun x hx => ?_)); cbv) | ((with_reducible refine Ob.mk (fun _ => ?_) ?_); rotate_left 1) | (with_reducible first | refine Mg.mk (Exists.intro ?_ (And.intro ?_ ?_)) | rfl | refine Fin.mk ?_ | exact True.intro | refine And.intro ?_ ?_)))
 all_goals first
  | (with_reducible show Goes _ _ _ _; skip)
  | ((try ((try dsimp only [Shp.D, Shp.Ds, Shp.dflt] at *); simp only [vem, veq, ne_eq, cmpI, arI, dvI, shI, SV.den, obLt, elemAt, obApp, partL, obPart, lowD, highD, mxOk, convL_self, zerosB, List.length_replicate, vln] at *; (try dsimp only [Shp.D, Shp.Ds, Shp.dflt, Shp.dflts] at *))); (have e3 : z1 3 = 3 := by omega); first | exact p3.lim | exact red_end e3 p3)
  | ((try dsimp only [Shp.D, Shp.Ds, Shp.dflt] at *); simp only [vem, veq, ne_eq, cmpI, arI, dvI, shI, SV.den, obLt, elemAt, obApp, partL, obPart, lowD, highD, mxOk, convL_self, zerosB, List.length_replicate, vln] at *; (try dsimp only [Shp.D, Shp.Ds, Shp.dflt, Shp.dflts] at *); done)
  | ((try dsimp only [Shp.D, Shp.Ds, Shp.dflt] at *); simp only [vem, veq, ne_eq, cmpI, arI, dvI, shI, SV.den, obLt, elemAt, obApp, partL, obPart, lowD, highD, mxOk, convL_self, zerosB, List.length_replicate, vln] at *; (try dsimp only [Shp.D, Shp.Ds, Shp.dflt, Shp.dflts] at *); omega)
  | (try ((try dsimp only [Shp.D, Shp.Ds, Shp.dflt] at *); simp only [vem, veq, ne_eq, cmpI, arI, dvI, shI, SV.den, obLt, elemAt, obApp, partL, obPart, lowD, highD, mxOk, convL_self, zerosB, List.length_replicate, vln] at *; (try dsimp only [Shp.D, Shp.Ds, Shp.dflt, Shp.dflts] at *)))
 all_goals
  (((with_reducible refine hR1 _ ?_ (fun zq bq tq yq hUq => ?_)); (focus (refine EndOk.mk (by cbv) (by cbv) (by cbv; repeat' (first | exact True.intro | exact rfl | with_reducible refine And.intro ?_ ?_)) (by cbv; repeat' (first | exact True.intro | exact rfl | with_reducible refine And.intro ?_ ?_)) (by cbv; repeat' (first | exact True.intro | exact rfl | with_reducible refine And.intro ?_ ?_)))); (have q3 := hUq.z 3); (cbv at q3); (replace q3 := q3.eq); (simp only [atI, vem, veq, ne_eq, cmpI, arI, dvI, shI, SV.den] at q3); (have q68096 := hUq.z 68096); (cbv at q68096); (replace q68096 := q68096.eq); (simp only [atI, vem, veq, ne_eq, cmpI, arI, dvI, shI, SV.den] at q68096); (have q68097 := hUq.z 68097); (cbv at q68097); (replace q68097 := q68097.eq); (simp only [atI, vem, veq, ne_eq, cmpI, arI, dvI, shI, SV.den] at q68097); (have q68098 := hUq.z 68098); (cbv at q68098); (replace q68098 := q68098.eq); (simp only [atI, vem, veq, ne_eq, cmpI, arI, dvI, shI, SV.den] at q68098); (have q68099 := hUq.z 68099); (cbv at q68099); (replace q68099 := q68099.eq); (simp only [atI, vem, veq, ne_eq, cmpI, arI, dvI, shI, SV.den] at q68099); (have q68100 := hUq.z 68100); (cbv at q68100); (replace q68100 := q68100.eq); (simp only [atI, vem, veq, ne_eq, cmpI, arI, dvI, shI, SV.den] at q68100); (have q68101 := hUq.z 68101); (cbv at q68101); (replace q68101 := q68101.eq); (simp only [atI, vem, veq, ne_eq, cmpI, arI, dvI, shI, SV.den] at q68101); (have q68102 := hUq.z 68102); (cbv at q68102); (replace q68102 := q68102.eq); (simp only [atI, vem, veq, ne_eq, cmpI, arI, dvI, shI, SV.den] at q68102); (have q68103 := hUq.z 68103); (cbv at q68103); (replace q68103 := q68103.eq); (simp only [atI, vem, veq, ne_eq, cmpI, arI, dvI, shI, SV.den] at q68103); (have q68104 := hUq.z 68104); (cbv at q68104); (replace q68104 := q68104.eq); (simp only [atI, vem, veq, ne_eq, cmpI, arI, dvI, shI, SV.den] at q68104); (have q68105 := hUq.z 68105); (cbv at q68105); (replace q68105 := q68105.eq); (simp only [atI, vem, veq, ne_eq, cmpI, arI, dvI, shI, SV.den] at q68105); (have q68106 := hUq.z 68106); (cbv at q68106); (replace q68106 := q68106.eq); (simp only [atI, vem, veq, ne_eq, cmpI, arI, dvI, shI, SV.den] at q68106); (have q68107 := hUq.z 68107); (cbv at q68107); (replace q68107 := q68107.eq); (simp only [atI, vem, veq, ne_eq, cmpI, arI, dvI, shI, SV.den] at q68107); (have q68108 := hUq.z 68108); (cbv at q68108); (replace q68108 := q68108.eq); (simp only [atI, vem, veq, ne_eq, cmpI, arI, dvI, shI, SV.den] at q68108); (have q68109 := hUq.z 68109); (cbv at q68109); (replace q68109 := q68109.eq); (simp only [atI, vem, veq, ne_eq, cmpI, arI, dvI, shI, SV.den] at q68109); (have q68110 := hUq.z 68110); (cbv at q68110); (replace q68110 := q68110.eq); (simp only [atI, vem, veq, ne_eq, cmpI, arI, dvI, shI, SV.den] at q68110); (have q68111 := hUq.z 68111); (cbv at q68111); (replace q68111 := q68111.eq); (simp only [atI, vem, veq, ne_eq, cmpI, arI, dvI, shI, SV.den] at q68111); (clear hUq hR1); (try dsimp only [Shp.D, Shp.Ds, Shp.dflt] at *); (try simp only [vem, veq, ne_eq, cmpI, arI, dvI, shI, SV.den, elemAt, convL_self] at *); (try dsimp only [Shp.D, Shp.Ds, Shp.dflt, Shp.dflts] at *))); (try ((try dsimp only [Shp.D, Shp.Ds, Shp.dflt] at *); simp only [vem, veq, ne_eq, cmpI, arI, dvI, shI, SV.den, obLt, elemAt, obApp, partL, obPart, lowD, highD, mxOk, convL_self, zerosB, List.length_replicate, vln] at *; (try dsimp only [Shp.D, Shp.Ds, Shp.dflt, Shp.dflts] at *)))
  rw [← q3, ← q68096, ← q68097, ← q68098, ← q68099, ← q68100, ← q68101, ← q68102, ← q68103, ← q68104, ← q68105, ← q68106, ← q68107, ← q68108, ← q68109, ← q68110, ← q68111]
  first
   | exact ⟨⟨by omega, by omega, red_up p3 (by omega) p1 rfl rfl (by assumption)⟩, by omega⟩
   | exact ⟨⟨by omega, by omega, red_mid p3 (by omega) p1 rfl rfl (by assumption) (by assumption)⟩, by omega⟩
   | exact ⟨⟨by omega, by omega, red_no p3 (by omega) p1 rfl rfl (by assumption) (by assumption)⟩, by omega⟩
end Go.Proofs.Ytihnagafldpbnaa.V
