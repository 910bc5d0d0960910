/- ref14: Mul. -/
import Derived.Test.YtihnagafldpbnaaVQb
set_option linter.unusedVariables false
set_option linter.unusedSimpArgs false
namespace Go.Proofs.Ytihnagafldpbnaa.V
open Go.RowKit
set_option maxHeartbeats 80000000
set_option maxRecDepth 100000
theorem cv_end {A B : List Int} {i z8 z7 : Int} (h0 : 0 ≤ z8) (h1 : z8 ≤ 16) (h3 : z7 = cvN A B i z8.toNat) (h : ¬ z8 < 16) : z7 = cvN A B i 16 := by
 rw [h3, show z8.toNat = 16 by omega]
theorem cv_lt {A B : List Int} (hA : LimL 65536 A) (hB : LimL 65536 B) {i n z7 zq : Int} (h0 : 0 ≤ n) (h1 : n < 16) (h3 : z7 = cvN A B i n.toNat) (hi : n ≤ i) {m : Int} (hm : m = i - n) (e : IntKind.u64.wrap (z7 + IntKind.u64.wrap (A.getD n.toNat 0 * B.getD m.toNat 0)) = zq) {n' : Int} (hn : n' = n + 1) : zq = cvN A B i n'.toNat := by
 subst hm hn
 have k1 := cvN_lim hA hB i n.toNat
 have k2 := mul16 (getD_lim hA (by decide) n.toNat) (getD_lim hB (by decide) (i - n).toNat)
 rw [wru (x := A.getD n.toNat 0 * B.getD (i - n).toNat 0) (by omega), wru (by omega)] at e
 rw [← e, show (n + 1).toNat = n.toNat + 1 by omega, cvN, ← h3]
 unfold cvS
 rw [show ((n.toNat : Nat) : Int) = n by omega, if_pos hi]
theorem cv_gt {A B : List Int} (hA : LimL 65536 A) (hB : LimL 65536 B) {i n z7 zq : Int} (h0 : 0 ≤ n) (h1 : n < 16) (h3 : z7 = cvN A B i n.toNat) (hi : ¬ n ≤ i) {m : Int} (hm : m = 16 + i - n) (e : IntKind.u64.wrap (z7 + IntKind.u64.wrap (IntKind.u64.wrap (38 * A.getD n.toNat 0) * B.getD m.toNat 0)) = zq) {n' : Int} (hn : n' = n + 1) : zq = cvN A B i n'.toNat := by
 subst hm hn
 have k1 := cvN_lim hA hB i n.toNat
 have k3 := getD_lim hA (by decide) n.toNat
 have k2 := mul16 k3 (getD_lim hB (by decide) (16 + i - n).toNat)
 have k4 := Int.mul_assoc 38 (A.getD n.toNat 0) (B.getD (16 + i - n).toNat 0)
 rw [wru (x := 38 * A.getD n.toNat 0) (by omega), wru (x := 38 * A.getD n.toNat 0 * B.getD (16 + i - n).toNat 0) (by omega), wru (by omega)] at e
 rw [← e, show (n + 1).toNat = n.toNat + 1 by omega, cvN, ← h3]
 unfold cvS
 rw [show ((n.toNat : Nat) : Int) = n by omega, if_neg hi]
structure AndH (p q : Prop) : Prop where
 l : p
 r : q
abbrev mulSpF : Spec := fnSpec [fE, fE] [fE] [] (fun (x : Shp.Ds [fE, fE]) => LimF 65536 x.1 ∧ LimF 65536 x.2.1) fun (x : Shp.Ds [fE, fE]) (y : Shp.Ds [fE]) => LimF 65536 y.1 ∧ Cg (valF y.1) (valF x.1 * valF x.2.1)
def fmC_t : SpecT := lf0 37 (carSpF)
def fmC : Cx := ⟨tt, qt, bt, st, fmC_t, 0, 1000000000000000, fun _ => none, false, CxE.no, []⟩
theorem fmC_si {E : Env} (h : E.ok) : SpecsOk Try.prog E (CxE.no) fmC_t (fun _ => none) := ⟨(lf0_ok (.inl (fcar_sp h))), noI_ok _ _ _⟩
theorem fmC_x {E : Env} (h : E.ok) : CxEOk Try.prog E (CxE.no) := CxE.no_ok _ _
theorem fmC_cx (E : Env) (h : E.ok) (h1 : E.lo = 0) (h2 : E.hi = 1000000000000000) : Cx.ok fmC Try.prog E := ⟨tt_ok, qt_ok, bt_ok, fmC_si h, h, h1, h2, mixed_ok, fmC_x h⟩
theorem fmC_from (lo hi : Nat) (E : Env) (h : E.ok) (h1 : E.lo = lo) (h2 : E.hi = hi) : Cx.ok (Cx.from fmC lo hi) Try.prog E := ⟨tt_ok, qt_ok, bt_ok, fmC_si h, h, h1, h2, mixed_ok, fmC_x h⟩
theorem fmul_fn : hasFn Try.prog 27 := ⟨_, Try.func27, by rfl, by rfl⟩
theorem fmul_sp {E : Env} (hE : E.ok) : SpecOk Try.prog E 27 mulSpF := by
 refine spec_of_vc (C := fmC) fmul_fn Try.func27 (by kernel_rfl) fmC_cx (fun x hl hx => ?_) hE
 obtain ⟨⟨m0, m1, m2, m3, m4, m5, m6, m7, m8, m9, m10, m11, m12, m13, m14, m15, ⟨⟩⟩, ⟨n0, n1, n2, n3, n4, n5, n6, n7, n8, n9, n10, n11, n12, n13, n14, n15, ⟨⟩⟩, ⟨⟩⟩ := x
 have hm : LimF 65536 (m0, m1, m2, m3, m4, m5, m6, m7, m8, m9, m10, m11, m12, m13, m14, m15, ()) ∧ LimF 65536 (n0, n1, n2, n3, n4, n5, n6, n7, n8, n9, n10, n11, n12, n13, n14, n15, ()) := hx
 clear hx
 obtain ⟨k, hk⟩ : ∃ k : Int, k = -1 := ⟨_, rfl⟩
 have hC : k = -1 := hk
 obtain ⟨A, rA⟩ : ∃ A, [m0, m1, m2, m3, m4, m5, m6, m7, m8, m9, m10, m11, m12, m13, m14, m15] = A := ⟨_, rfl⟩
 obtain ⟨B, rB⟩ : ∃ B, [n0, n1, n2, n3, n4, n5, n6, n7, n8, n9, n10, n11, n12, n13, n14, n15] = B := ⟨_, rfl⟩
 have hA : LimL 65536 A := rA ▸ hm.1
 have hB : LimL 65536 B := rB ▸ hm.2
 cbv
 (repeat' (first | ((with_reducible refine And.intro (fun h => ?_) (fun h => ?_)) <;> (first | with_reducible exact (tf h (by assumption)).elim | with_reducible exact (tf (by assumption) h).elim | cbv)) | ((with_reducible show JoinT (fun s K => vc _ (Code.region _ _ true) s K) _ _ _ _ _ _); (with_reducible apply JoinT.mg2); (focus (cbv; (repeat' (first | ((with_reducible refine And.intro (fun h => ?_) (fun h => ?_)) <;> (first | with_reducible exact (tf h (by assumption)).elim | with_reducible exact (tf (by assumption) h).elim | cbv)) | ((with_reducible first | refine Cb.mk ?_ | refine Lz.mk ?_ | refine JoinT.left ?_ | refine AllT.mk (fun x hx => ?_)); cbv) | ((with_reducible refine Ob.mk (fun _ => ?_) ?_); rotate_left 1) | (with_reducible first | refine Mg.mk (Exists.intro ?_ (And.intro ?_ ?_)) | rfl | refine Fin.mk ?_ | exact True.intro | refine And.intro ?_ ?_))); (all_goals (try (have du : Unit := (); have dv : Unit := (); first | exact Goes.self (Ex2.mk ⟨dv, du, trivial, trivial, rfl⟩) | exact Goes.self (Ex2.mk ⟨x, du, hx, trivial, rfl⟩) | (rename_i xa hxa; exact Goes.self (Ex2.mk ⟨xa, x, hxa, hx, rfl⟩))))); (all_goals (fail_if_success (with_reducible first | show Goes _ _ _ _ | show (∃ _, unr _ _ _ _ _ _))))))) | ((with_reducible first | refine Cb.mk ?_ | refine Lz.mk ?_ | refine JoinT.left ?_ | refine AllT.mk (fun x hx => ?_)); cbv) | ((with_reducible refine Ob.mk (fun _ => ?_) ?_); rotate_left 1) | (with_reducible first | refine Mg.mk (Exists.intro ?_ (And.intro ?_ ?_)) | rfl | refine Fin.mk ?_ | exact True.intro | refine And.intro ?_ ?_)))
 all_goals first | (with_reducible show (∃ _, unr _ _ _ _ _ _); skip) | (with_reducible show UnrI _ _ _ _ _; skip) | (with_reducible show Goes _ _ _ _; skip) | (with_reducible show JoinT _ _ _ _ _ _ _; skip) | (first | ((try dsimp only [Shp.D, Shp.Ds, Shp.dflt] at *); simp only [vem, veq, ne_eq, cmpI, arI, dvI, shI, SV.den, obLt, elemAt, obApp, partL, obPart, lowD, highD, mxOk, convL_self, zerosB, List.length_replicate, vln] at *; (try dsimp only [Shp.D, Shp.Ds, Shp.dflt, Shp.dflts] at *); done) | ((try dsimp only [Shp.D, Shp.Ds, Shp.dflt] at *); simp only [vem, veq, ne_eq, cmpI, arI, dvI, shI, SV.den, obLt, elemAt, obApp, partL, obPart, lowD, highD, mxOk, convL_self, zerosB, List.length_replicate, vln] at *; (try dsimp only [Shp.D, Shp.Ds, Shp.dflt, Shp.dflts] at *); omega) | (try ((try dsimp only [Shp.D, Shp.Ds, Shp.dflt] at *); simp only [vem, veq, ne_eq, cmpI, arI, dvI, shI, SV.den, obLt, elemAt, obApp, partL, obPart, lowD, highD, mxOk, convL_self, zerosB, List.length_replicate, vln] at *; (try dsimp only [Shp.D, Shp.Ds, Shp.dflt, Shp.dflts] at *))))
 all_goals refine ⟨17, ?_⟩
 cbv
 (repeat' (first | ((with_reducible refine And.intro (fun h => ?_) (fun h => ?_)) <;> (first | with_reducible exact (tf h (by assumption)).elim | with_reducible exact (tf (by assumption) h).elim | cbv)) | ((with_reducible show JoinT (fun s K => vc _ (Code.region _ _ true) s K) _ _ _ _ _ _); (with_reducible apply JoinT.mg2); (focus (cbv; (repeat' (first | ((with_reducible refine And.intro (fun h => ?_) (fun h => ?_)) <;> (first | with_reducible exact (tf h (by assumption)).elim | with_reducible exact (tf (by assumption) h).elim | cbv)) | ((with_reducible first | refine Cb.mk ?_ | refine Lz.mk ?_ | refine JoinT.left ?_ | refine AllT.mk (fun x hx => ?_)); cbv) | ((with_reducible refine Ob.mk (fun _ => ?_) ?_); rotate_left 1) | (with_reducible first | refine Mg.mk (Exists.intro ?_ (And.intro ?_ ?_)) | rfl | refine Fin.mk ?_ | exact True.intro | refine And.intro ?_ ?_))); (all_goals (try (have du : Unit := (); have dv : Unit := (); first | exact Goes.self (Ex2.mk ⟨dv, du, trivial, trivial, rfl⟩) | exact Goes.self (Ex2.mk ⟨x, du, hx, trivial, rfl⟩) | (rename_i xa hxa; exact Goes.self (Ex2.mk ⟨xa, x, hxa, hx, rfl⟩))))); (all_goals (fail_if_success (with_reducible first | show Goes _ _ _ _ | show (∃ _, unr _ _ _ _ _ _))))))) | ((with_reducible first | refine Cb.mk ?_ | refine Lz.mk ?_ | refine JoinT.left ?_ | refine AllT.mk (fun x hx => ?_)); cbv) | ((with_reducible refine Ob.mk (fun _ => ?_) ?_); rotate_left 1) | (with_reducible first | refine Mg.mk (Exists.intro ?_ (And.intro ?_ ?_)) | rfl | refine Fin.mk ?_ | exact True.intro | refine And.intro ?_ ?_)))
 all_goals first | (with_reducible show (∃ _, unr _ _ _ _ _ _); skip) | (with_reducible show UnrI _ _ _ _ _; skip) | (with_reducible show Goes _ _ _ _; skip) | (with_reducible show JoinT _ _ _ _ _ _ _; skip) | (first | ((try dsimp only [Shp.D, Shp.Ds, Shp.dflt] at *); simp only [vem, veq, ne_eq, cmpI, arI, dvI, shI, SV.den, obLt, elemAt, obApp, partL, obPart, lowD, highD, mxOk, convL_self, zerosB, List.length_replicate, vln] at *; (try dsimp only [Shp.D, Shp.Ds, Shp.dflt, Shp.dflts] at *); done) | ((try dsimp only [Shp.D, Shp.Ds, Shp.dflt] at *); simp only [vem, veq, ne_eq, cmpI, arI, dvI, shI, SV.den, obLt, elemAt, obApp, partL, obPart, lowD, highD, mxOk, convL_self, zerosB, List.length_replicate, vln] at *; (try dsimp only [Shp.D, Shp.Ds, Shp.dflt, Shp.dflts] at *); omega) | (try ((try dsimp only [Shp.D, Shp.Ds, Shp.dflt] at *); simp only [vem, veq, ne_eq, cmpI, arI, dvI, shI, SV.den, obLt, elemAt, obApp, partL, obPart, lowD, highD, mxOk, convL_self, zerosB, List.length_replicate, vln] at *; (try dsimp only [Shp.D, Shp.Ds, Shp.dflt, Shp.dflts] at *))))
 iterate 16
  refine Exists.elim (⟨_, rfl⟩ : ∃ k' : Int, k' = k + 1) (fun k hk => ?_)
  with_reducible refine loop_hv [] (rangeN 9 40) [] [] (fun z b t y => 0 ≤ z 8 ∧ z 8 ≤ 16 ∧ z 7 = cvN A B k (z 8).toNat) (fun z b t y => (16 - z 8).toNat) (by cbv) (by cbv) ?_ ?_ (fun z1 b1 t1 u1 y1 R1 hP1 hR1 => ?_)
  ·refine EndOk.mk (by cbv) (by cbv) (by cbv; repeat' (first | exact True.intro | exact rfl | with_reducible refine And.intro ?_ ?_)) (by cbv; repeat' (first | exact True.intro | exact rfl | with_reducible refine And.intro ?_ ?_)) (by cbv; repeat' (first | exact True.intro | exact rfl | with_reducible refine And.intro ?_ ?_))
  ·intro zq bq tq yq hUq
   have q7 := hUq.z 7
   cbv at q7
   replace q7 := q7.eq
   simp only [atI, vem, veq, ne_eq, cmpI, arI, dvI, shI, SV.den] at q7
   have q8 := hUq.z 8
   cbv at q8
   replace q8 := q8.eq
   simp only [atI, vem, veq, ne_eq, cmpI, arI, dvI, shI, SV.den] at q8
   clear hUq
   try dsimp only [Shp.D, Shp.Ds, Shp.dflt] at *
   try simp only [vem, veq, ne_eq, cmpI, arI, dvI, shI, SV.den, convL_self] at *
   rw [← q7, ← q8]
   exact ⟨by omega, by omega, rfl⟩
  obtain ⟨p1, p2, p3⟩ := hP1
  cbv
  (repeat' (first | ((with_reducible refine And.intro (fun h => ?_) (fun h => ?_)) <;> (first | with_reducible exact (tf h (by assumption)).elim | with_reducible exact (tf (by assumption) h).elim | cbv)) | ((with_reducible show JoinT (fun s K => vc _ (Code.region _ _ true) s K) _ _ _ _ _ _); (with_reducible apply JoinT.mg2); (focus (cbv; (repeat' (first | ((with_reducible refine And.intro (fun h => ?_) (fun h => ?_)) <;> (first | with_reducible exact (tf h (by assumption)).elim | with_reducible exact (tf (by assumption) h).elim | cbv)) | ((with_reducible first | refine Cb.mk ?_ | refine Lz.mk ?_ | refine JoinT.left ?_ | refine AllT.mk (fun x hx => ?_)); cbv) | ((with_reducible refine Ob.mk (fun _ => ?_) ?_); rotate_left 1) | (with_reducible first | refine Mg.mk (Exists.intro ?_ (And.intro ?_ ?_)) | rfl | refine Fin.mk ?_ | exact True.intro | refine And.intro ?_ ?_))); (all_goals (try (have du : Unit := (); have dv : Unit := (); first | exact Goes.self (Ex2.mk ⟨dv, du, trivial, trivial, rfl⟩) | exact Goes.self (Ex2.mk ⟨x, du, hx, trivial, rfl⟩) | (rename_i xa hxa; exact Goes.self (Ex2.mk ⟨xa, x, hxa, hx, rfl⟩))))); (all_goals (fail_if_success (with_reducible first | show Goes _ _ _ _ | show (∃ _, unr _ _ _ _ _ _))))))) | ((with_reducible first | refine Cb.mk ?_ | refine Lz.mk ?_ | refine JoinT.left ?_ | refine AllT.mk (fun x hx => ?_)); cbv) | ((with_reducible refine Ob.mk (fun _ => ?_) ?_); rotate_left 1) | (with_reducible first | refine Mg.mk (Exists.intro ?_ (And.intro ?_ ?_)) | rfl | refine Fin.mk ?_ | exact True.intro | refine And.intro ?_ ?_)))
  all_goals first
   | (with_reducible show (∃ _, unr _ _ _ _ _ _); skip)
   | (with_reducible show Goes _ _ _ _; skip)
   | ((try dsimp only [Shp.D, Shp.Ds, Shp.dflt] at *); simp only [vem, veq, ne_eq, cmpI, arI, dvI, shI, SV.den, obLt, elemAt, obApp, partL, obPart, lowD, highD, mxOk, convL_self, zerosB, List.length_replicate, vln] at *; (try dsimp only [Shp.D, Shp.Ds, Shp.dflt, Shp.dflts] at *); done)
   | ((try dsimp only [Shp.D, Shp.Ds, Shp.dflt] at *); simp only [vem, veq, ne_eq, cmpI, arI, dvI, shI, SV.den, obLt, elemAt, obApp, partL, obPart, lowD, highD, mxOk, convL_self, zerosB, List.length_replicate, vln] at *; (try dsimp only [Shp.D, Shp.Ds, Shp.dflt, Shp.dflts] at *); omega)
   | (try ((try dsimp only [Shp.D, Shp.Ds, Shp.dflt] at *); simp only [vem, veq, ne_eq, cmpI, arI, dvI, shI, SV.den, obLt, elemAt, obApp, partL, obPart, lowD, highD, mxOk, convL_self, zerosB, List.length_replicate, vln] at *; (try dsimp only [Shp.D, Shp.Ds, Shp.dflt, Shp.dflts] at *)))
  all_goals first
   | (with_reducible show Goes _ _ _ _
      (((with_reducible refine hR1 _ ?_ (fun zq bq tq yq hUq => ?_)); (focus (refine EndOk.mk (by cbv) (by cbv) (by cbv; repeat' (first | exact True.intro | exact rfl | with_reducible refine And.intro ?_ ?_)) (by cbv; repeat' (first | exact True.intro | exact rfl | with_reducible refine And.intro ?_ ?_)) (by cbv; repeat' (first | exact True.intro | exact rfl | with_reducible refine And.intro ?_ ?_)))); (have q7 := hUq.z 7); (cbv at q7); (replace q7 := q7.eq); (simp only [atI, vem, veq, ne_eq, cmpI, arI, dvI, shI, SV.den] at q7); (have q8 := hUq.z 8); (cbv at q8); (replace q8 := q8.eq); (simp only [atI, vem, veq, ne_eq, cmpI, arI, dvI, shI, SV.den] at q8); (clear hUq hR1); (try dsimp only [Shp.D, Shp.Ds, Shp.dflt] at *); (try simp only [vem, veq, ne_eq, cmpI, arI, dvI, shI, SV.den, elemAt, convL_self] at *); (try dsimp only [Shp.D, Shp.Ds, Shp.dflt, Shp.dflts] at *))); (try ((try dsimp only [Shp.D, Shp.Ds, Shp.dflt] at *); simp only [vem, veq, ne_eq, cmpI, arI, dvI, shI, SV.den, obLt, elemAt, obApp, partL, obPart, lowD, highD, mxOk, convL_self, zerosB, List.length_replicate, vln] at *; (try dsimp only [Shp.D, Shp.Ds, Shp.dflt, Shp.dflts] at *)))
      simp only [selI, denL, den_t, rA, rB] at q7
      first
       | (have hi : z1 8 ≤ k := by omega
          exact ⟨⟨by omega, by omega, cv_lt hA hB p1 (by omega) p3 hi (by omega) q7 (by omega)⟩, by omega⟩)
       | (have hi : ¬ z1 8 ≤ k := by omega
          exact ⟨⟨by omega, by omega, cv_gt hA hB p1 (by omega) p3 hi (by omega) q7 (by omega)⟩, by omega⟩))
   | skip
  all_goals
   have c1 : z1 7 = cvN A B k 16 := by
    have hh := h
    (try simp only [vem, veq, ne_eq, cmpI, arI, dvI, shI, SV.den] at hh)
    exact cv_end p1 p2 p3 hh
   have hC := AndH.mk hk (AndH.mk c1 hC)
   clear p1 p2 p3 c1 hR1
 all_goals
  obtain ⟨rfl, c16, rfl, c15, rfl, c14, rfl, c13, rfl, c12, rfl, c11, rfl, c10, rfl, c9, rfl, c8, rfl, c7, rfl, c6, rfl, c5, rfl, c4, rfl, c3, rfl, c2, rfl, c1, rfl⟩ := hC
  simp only [Int.reduceAdd, Int.reduceNeg] at c1 c2 c3 c4 c5 c6 c7 c8 c9 c10 c11 c12 c13 c14 c15 c16
  have hL := mulQ_lim hm.1 hm.2
  have hV := mulQ_val (m0, m1, m2, m3, m4, m5, m6, m7, m8, m9, m10, m11, m12, m13, m14, m15, ()) (n0, n1, n2, n3, n4, n5, n6, n7, n8, n9, n10, n11, n12, n13, n14, n15, ())
  unfold mulQ at hL hV
  simp only [ls16, rA, rB] at hL hV
  rw [← c1, ← c2, ← c3, ← c4, ← c5, ← c6, ← c7, ← c8, ← c9, ← c10, ← c11, ← c12, ← c13, ← c14, ← c15, ← c16] at hL hV
  first
   | exact hL
   | exact hx.1.1
   | exact hx.1.2.trans hV
end Go.Proofs.Ytihnagafldpbnaa.V
