/- message: complete, Check. -/
import Derived.Test.YtbdfijdianaghaaVMc
import Derived.Test.YtbdfijdianaghaaVmk
set_option linter.unusedVariables false
set_option linter.unusedSimpArgs false
namespace Go.Proofs.Ytbdfijdianaghaa.V
open Go.RowKit
set_option maxHeartbeats 8000000
set_option maxRecDepth 100000
def kyN : CxE := ⟨0, fun _ => False, fun t => match nBeq t 3 with | true => some (.int .i64) | false => none, fun _ _ _ _ _ _ _ => False⟩
theorem kyN_ok {E : Env} (hE : E.ok) : CxEOk Try.prog E kyN := by
 refine ⟨fun t e h => ?_, fun l lo hi id args s K _ _ h => h.elim⟩
 unfold kyN at h
 simp only at h
 split at h
 ·rename_i hb
  cases h
  rw [nBeq_eq hb]
  exact ky_int (k := .i64) rfl
 ·cases h
def coC_t : SpecT := nd0 27 (lf0 17 (cntFn)) (nd0 28 (lf0 27 (reqFn)) (lf0 28 (chaSp)))
def coC : Cx := ⟨tt, qt, bt, st, coC_t, 0, 1000000000000000, fun _ => none, false, kyN, []⟩
theorem coC_si {E : Env} (h : E.ok) : SpecsOk Try.prog E (kyN) coC_t (fun _ => none) := ⟨(nd0_ok (lf0_ok (.inl (cnt_sp h))) (nd0_ok (lf0_ok (.inl (req_sp h))) (lf0_ok (.inl (cha_sp h))))), noI_ok _ _ _⟩
theorem coC_x {E : Env} (h : E.ok) : CxEOk Try.prog E (kyN) := kyN_ok h
theorem coC_cx (E : Env) (h : E.ok) (h1 : E.lo = 0) (h2 : E.hi = 1000000000000000) : Cx.ok coC Try.prog E := ⟨tt_ok, qt_ok, bt_ok, coC_si h, h, h1, h2, mixed_ok, coC_x h⟩
theorem coC_from (lo hi : Nat) (E : Env) (h : E.ok) (h1 : E.lo = lo) (h2 : E.hi = hi) : Cx.ok (Cx.from coC lo hi) Try.prog E := ⟨tt_ok, qt_ok, bt_ok, coC_si h, h, h1, h2, mixed_ok, coC_x h⟩
theorem com_fn : hasFn Try.prog 18 := ⟨_, Try.func18, by rfl, by rfl⟩
abbrev comSp : Spec := fnSpec [msgE] [.bool] [] (fun (x : Shp.Ds [msgE]) => FewP x.1.2.1.length) fun (x : Shp.Ds [msgE]) (y : Shp.Ds [.bool]) => y.1 = comI (reqF x.1.1) x.1.1.2.2.2.1 (tyP x.1.2.1) (noP x.1.2.1) x.1.2.1.length
theorem need_t (x : Int) : lookD (.int .i64) (.sl (.int .i64)) ([] ++ [(34, [33, 34, 40], ())] ++ [(35, [35, 39, 33, 44, 45], ())] ++ [(36, [33, 40], ())]) x [] = needT true x := by
 by_cases h1 : x = 34
 ·subst h1; rfl
 ·by_cases h2 : x = 35
  ·subst h2; rfl
  ·by_cases h3 : x = 36
   ·subst h3; rfl
   ·have e1 : ((34 : Int) == x) = false := beq_eq_false_iff_ne.2 (Ne.symm h1)
    have e2 : ((35 : Int) == x) = false := beq_eq_false_iff_ne.2 (Ne.symm h2)
    have e3 : ((36 : Int) == x) = false := beq_eq_false_iff_ne.2 (Ne.symm h3)
    simp [needT, h1, h2, h3, lookD, lookO, Shp.eqD, intEq, e1, e2, e3]
theorem need_f (x : Int) : lookD (.int .i64) (.sl (.int .i64)) ([] ++ [(34, [33, 34, 40], ())] ++ [(35, [36, 39, 33, 44, 45], ())] ++ [(36, [33, 40], ())]) x [] = needT false x := by
 by_cases h1 : x = 34
 ·subst h1; rfl
 ·by_cases h2 : x = 35
  ·subst h2; rfl
  ·by_cases h3 : x = 36
   ·subst h3; rfl
   ·have e1 : ((34 : Int) == x) = false := beq_eq_false_iff_ne.2 (Ne.symm h1)
    have e2 : ((35 : Int) == x) = false := beq_eq_false_iff_ne.2 (Ne.symm h2)
    have e3 : ((36 : Int) == x) = false := beq_eq_false_iff_ne.2 (Ne.symm h3)
    simp [needT, h1, h2, h3, lookD, lookO, Shp.eqD, intEq, e1, e2, e3]
theorem com_1 {q : Bool} {x : Int} {t w : Nat → Int} {n : Nat} {z : Int} (h0 : 0 ≤ z) (h1 : z < ((needT q x).length : Int)) (hc : cntI t ((needT q x).getD z.toNat 0) n = 0) : comI q x t w n = (decide (x = 34) && chaI t w n) := by
 unfold comI
 rw [if_neg]
 intro hall
 rw [List.all_eq_true] at hall
 have hz : z.toNat < (needT q x).length := by omega
 have := hall _ (List.getElem_mem hz)
 rw [List.getD_eq_getElem?_getD, List.getElem?_eq_getElem hz] at hc
 simp only [Option.getD_some] at hc
 rw [hc] at this
 exact absurd this (by decide)
theorem com_2 {q : Bool} {x : Int} {t w : Nat → Int} {n : Nat} {z : Int} (h1 : ¬ z < ((needT q x).length : Int)) (hc : ∀ i : Nat, (i : Int) < z → ¬ cntI t ((needT q x).getD i 0) n = 0) : true = comI q x t w n := by
 unfold comI
 rw [if_pos]
 rw [List.all_eq_true]
 intro k hk
 obtain ⟨i, hi, rfl⟩ := List.getElem_of_mem hk
 have := hc i (by omega)
 rw [List.getD_eq_getElem?_getD, List.getElem?_eq_getElem hi] at this
 simpa using this
theorem com_3 {q : Bool} {x : Int} {t w : Nat → Int} {n : Nat} {z : Int} {c : Bool} {P : Prop} (hx : c = chaI t w n ∧ P) (h : x = 34) (h0 : 0 ≤ z) (h1 : z < ((needT q x).length : Int)) (hc : cntI t ((needT q x).getD z.toNat 0) n = 0) : c = comI q x t w n := by
 rw [com_1 h0 h1 hc, h, hx.1]
 simp
theorem com_4 {q : Bool} {x : Int} {t w : Nat → Int} {n : Nat} {z : Int} (h : ¬ x = 34) (h0 : 0 ≤ z) (h1 : z < ((needT q x).length : Int)) (hc : cntI t ((needT q x).getD z.toNat 0) n = 0) : false = comI q x t w n := by
 rw [com_1 h0 h1 hc]
 simp [h]
theorem com_sp {E : Env} (hE : E.ok) : SpecOk Try.prog E 18 comSp := by
 refine spec_of_vc (C := coC) com_fn Try.func18 (by kernel_rfl) coC_cx (fun x hl hx => ?_) hE
 obtain ⟨⟨⟨i1, r1, n1, x1, f1, d1, ⟨⟩⟩, l, ⟨⟩⟩, ⟨⟩⟩ := x
 have hlen : l.length ≤ 1000000 := hx.h
 have hnt : (needT (reqF (i1, r1, n1, x1, f1, d1, PUnit.unit)) x1).length ≤ 5 := by
  unfold needT
  split
  ·decide
  ·split
   ·simp
   ·split <;> simp
 cbv
 (repeat' (first | ((with_reducible apply And.intro <;> intro h) <;> (first | with_reducible exact (tf h (by assumption)).elim | with_reducible exact (tf (by assumption) h).elim | cbv)) | ((with_reducible show JoinT (fun s K => vc _ (Code.region _ _ true) s K) _ _ _ _ _ _); (with_reducible apply JoinT.mg2); (focus (cbv; (repeat' (first | ((with_reducible apply And.intro <;> intro h) <;> (first | with_reducible exact (tf h (by assumption)).elim | with_reducible exact (tf (by assumption) h).elim | cbv)) | ((with_reducible first | refine Cb.mk ?_ | refine Lz.mk ?_ | refine JoinT.left ?_ | (apply AllT.mk; intro x hx)); cbv) | ((with_reducible refine Ob.mk (fun _ => ?_) ?_); rotate_left 1) | (with_reducible first | refine Mg.mk (Exists.intro ?_ (And.intro ?_ ?_)) | rfl | refine Fin.mk ?_ | exact True.intro | refine And.intro ?_ ?_))); (all_goals (try (have du : Unit := (); have dv : Unit := (); first | exact Goes.self (Ex2.mk ⟨dv, du, trivial, trivial, rfl⟩) | exact Goes.self (Ex2.mk ⟨x, du, hx, trivial, rfl⟩) | (rename_i xa hxa; exact Goes.self (Ex2.mk ⟨xa, x, hxa, hx, rfl⟩))))); (all_goals (fail_if_success (with_reducible first | show Goes _ _ _ _ | show (∃ _, unr _ _ _ _ _ _))))))) | ((with_reducible first | refine Cb.mk ?_ | refine Lz.mk ?_ | refine JoinT.left ?_ | (apply AllT.mk; intro x hx)); cbv) | ((with_reducible refine Ob.mk (fun _ => ?_) ?_); rotate_left 1) | (with_reducible first | refine Mg.mk (Exists.intro ?_ (And.intro ?_ ?_)) | rfl | refine Fin.mk ?_ | exact True.intro | refine And.intro ?_ ?_)))
 all_goals first | (with_reducible show (∃ _, unr _ _ _ _ _ _); skip) | (with_reducible show UnrI _ _ _ _ _; skip) | (with_reducible show Goes _ _ _ _; skip) | (with_reducible show JoinT _ _ _ _ _ _ _; skip) | (first | ((try dsimp only [Shp.D, Shp.Ds, Shp.dflt] at *); simp only [vem, veq, ne_eq, cmpI, arI, dvI, shI, SV.den, obLt, elemAt, obApp, partL, obPart, lowD, highD, mxOk, convL_self, zerosB, List.length_replicate, vln] at *; (try dsimp only [Shp.D, Shp.Ds, Shp.dflt, Shp.dflts] at *); done) | ((try dsimp only [Shp.D, Shp.Ds, Shp.dflt] at *); simp only [vem, veq, ne_eq, cmpI, arI, dvI, shI, SV.den, obLt, elemAt, obApp, partL, obPart, lowD, highD, mxOk, convL_self, zerosB, List.length_replicate, vln] at *; (try dsimp only [Shp.D, Shp.Ds, Shp.dflt, Shp.dflts] at *); omega) | (((try dsimp only [Shp.D, Shp.Ds, Shp.dflt] at *); simp only [vem, veq, ne_eq, cmpI, arI, dvI, shI, SV.den, obLt, elemAt, obApp, partL, obPart, lowD, highD, mxOk, convL_self, zerosB, List.length_replicate, vln] at *; (try dsimp only [Shp.D, Shp.Ds, Shp.dflt, Shp.dflts] at *)); rfl) | (try ((try dsimp only [Shp.D, Shp.Ds, Shp.dflt] at *); simp only [vem, veq, ne_eq, cmpI, arI, dvI, shI, SV.den, obLt, elemAt, obApp, partL, obPart, lowD, highD, mxOk, convL_self, zerosB, List.length_replicate, vln] at *; (try dsimp only [Shp.D, Shp.Ds, Shp.dflt, Shp.dflts] at *))))
 all_goals
  with_reducible refine loop_hv [] (6 :: 11 :: 13 :: 14 :: rangeN 23 16) [] [] (fun z b t y => 0 ≤ z 22 ∧ z 22 ≤ ((needT (reqF (i1, r1, n1, x1, f1, d1, PUnit.unit)) x1).length : Int) ∧ ∀ i : Nat, (i : Int) < z 22 → ¬ cntI (tyP l) ((needT (reqF (i1, r1, n1, x1, f1, d1, PUnit.unit)) x1).getD i 0) l.length = 0) (fun z b t y => (((needT (reqF (i1, r1, n1, x1, f1, d1, PUnit.unit)) x1).length : Int) - z 22).toNat) (by cbv) (by cbv) ?_ ?_ (fun z1 b1 t1 u1 y1 R1 hP1 hR1 => ?_)
  ·refine EndOk.mk (by cbv) (by cbv) (by cbv; repeat' (first | exact True.intro | exact rfl | with_reducible refine And.intro ?_ ?_)) (by cbv; repeat' (first | exact True.intro | exact rfl | with_reducible refine And.intro ?_ ?_)) (by cbv; repeat' (first | exact True.intro | exact rfl | with_reducible refine And.intro ?_ ?_))
  ·intro zq bq tq yq hUq
   have q22 := hUq.z 22
   cbv at q22
   replace q22 := q22.eq
   simp only [atI, vem, veq, ne_eq, cmpI, arI, dvI, shI, SV.den] at q22
   clear hUq
   try dsimp only [Shp.D, Shp.Ds, Shp.dflt] at *
   try simp only [vem, veq, ne_eq, cmpI, arI, dvI, shI, SV.den, convL_self] at *
   rw [← q22]
   exact ⟨by omega, by omega, fun i hi => by omega⟩
  obtain ⟨p1, p2, p3⟩ := hP1
  cbv
  (repeat' (first | ((with_reducible apply And.intro <;> intro h) <;> (first | with_reducible exact (tf h (by assumption)).elim | with_reducible exact (tf (by assumption) h).elim | cbv)) | ((with_reducible show JoinT (fun s K => vc _ (Code.region _ _ true) s K) _ _ _ _ _ _); (with_reducible apply JoinT.mg2); (focus (cbv; (repeat' (first | ((with_reducible apply And.intro <;> intro h) <;> (first | with_reducible exact (tf h (by assumption)).elim | with_reducible exact (tf (by assumption) h).elim | cbv)) | ((with_reducible first | refine Cb.mk ?_ | refine Lz.mk ?_ | refine JoinT.left ?_ | (apply AllT.mk; intro x hx)); cbv) | ((with_reducible refine Ob.mk (fun _ => ?_) ?_); rotate_left 1) | (with_reducible first | refine Mg.mk (Exists.intro ?_ (And.intro ?_ ?_)) | rfl | refine Fin.mk ?_ | exact True.intro | refine And.intro ?_ ?_))); (all_goals (try (have du : Unit := (); have dv : Unit := (); first | exact Goes.self (Ex2.mk ⟨dv, du, trivial, trivial, rfl⟩) | exact Goes.self (Ex2.mk ⟨x, du, hx, trivial, rfl⟩) | (rename_i xa hxa; exact Goes.self (Ex2.mk ⟨xa, x, hxa, hx, rfl⟩))))); (all_goals (fail_if_success (with_reducible first | show Goes _ _ _ _ | show (∃ _, unr _ _ _ _ _ _))))))) | ((with_reducible first | refine Cb.mk ?_ | refine Lz.mk ?_ | refine JoinT.left ?_ | (apply AllT.mk; intro x hx)); cbv) | ((with_reducible refine Ob.mk (fun _ => ?_) ?_); rotate_left 1) | (with_reducible first | refine Mg.mk (Exists.intro ?_ (And.intro ?_ ?_)) | rfl | refine Fin.mk ?_ | exact True.intro | refine And.intro ?_ ?_)))
  all_goals first
   | (with_reducible show Goes _ _ _ _; skip)
   | ((try dsimp only [Shp.D, Shp.Ds, Shp.dflt] at *); simp only [vem, veq, ne_eq, cmpI, arI, dvI, shI, SV.den, obLt, elemAt, obApp, partL, obPart, lowD, highD, mxOk, convL_self, zerosB, List.length_replicate, vln] at *; (try dsimp only [Shp.D, Shp.Ds, Shp.dflt, Shp.dflts] at *); done)
   | (((try dsimp only [Shp.D, Shp.Ds, Shp.dflt] at *); simp only [vem, veq, ne_eq, cmpI, arI, dvI, shI, SV.den, obLt, elemAt, obApp, partL, obPart, lowD, highD, mxOk, convL_self, zerosB, List.length_replicate, vln] at *; (try dsimp only [Shp.D, Shp.Ds, Shp.dflt, Shp.dflts] at *)); omega)
   | (try ((try dsimp only [Shp.D, Shp.Ds, Shp.dflt] at *); simp only [vem, veq, ne_eq, cmpI, arI, dvI, shI, SV.den, obLt, elemAt, obApp, partL, obPart, lowD, highD, mxOk, convL_self, zerosB, List.length_replicate, vln] at *; (try dsimp only [Shp.D, Shp.Ds, Shp.dflt, Shp.dflts] at *)))
  all_goals first
   | (with_reducible show Goes _ _ _ _; skip)
   | (have hq : reqF (i1, r1, n1, x1, f1, d1, PUnit.unit) = true := by assumption
      have e := need_t x1
      rw [← hq] at e
      first
       | (have a1 : z1 22 < ((needT (reqF (i1, r1, n1, x1, f1, d1, PUnit.unit)) x1).length : Int) := by rw [← e]; assumption
          have a2 : cntI (tyP l) ((needT (reqF (i1, r1, n1, x1, f1, d1, PUnit.unit)) x1).getD (z1 22).toNat 0) l.length = 0 := by rw [← e]; assumption
          first
           | exact com_3 hx h p1 a1 a2
           | exact com_4 h p1 a1 a2)
       | exact com_2 (show ¬ z1 22 < ((needT (reqF (i1, r1, n1, x1, f1, d1, PUnit.unit)) x1).length : Int) from by rw [← e]; exact h) p3
       | (rw [← e] at p2 hnt; omega))
   | (have hq : reqF (i1, r1, n1, x1, f1, d1, PUnit.unit) = false := by assumption
      have e := need_f x1
      rw [← hq] at e
      first
       | (have a1 : z1 22 < ((needT (reqF (i1, r1, n1, x1, f1, d1, PUnit.unit)) x1).length : Int) := by rw [← e]; assumption
          have a2 : cntI (tyP l) ((needT (reqF (i1, r1, n1, x1, f1, d1, PUnit.unit)) x1).getD (z1 22).toNat 0) l.length = 0 := by rw [← e]; assumption
          first
           | exact com_3 hx h p1 a1 a2
           | exact com_4 h p1 a1 a2)
       | exact com_2 (show ¬ z1 22 < ((needT (reqF (i1, r1, n1, x1, f1, d1, PUnit.unit)) x1).length : Int) from by rw [← e]; exact h) p3
       | (rw [← e] at p2 hnt; omega))
   | skip
  all_goals
   (((with_reducible refine hR1 _ ?_ (fun zq bq tq yq hUq => ?_)); (focus (refine EndOk.mk (by cbv) (by cbv) (by cbv; repeat' (first | exact True.intro | exact rfl | with_reducible refine And.intro ?_ ?_)) (by cbv; repeat' (first | exact True.intro | exact rfl | with_reducible refine And.intro ?_ ?_)) (by cbv; repeat' (first | exact True.intro | exact rfl | with_reducible refine And.intro ?_ ?_)))); (have q22 := hUq.z 22); (cbv at q22); (replace q22 := q22.eq); (simp only [atI, vem, veq, ne_eq, cmpI, arI, dvI, shI, SV.den] at q22); (clear hUq hR1); (try dsimp only [Shp.D, Shp.Ds, Shp.dflt] at *); (try simp only [vem, veq, ne_eq, cmpI, arI, dvI, shI, SV.den, elemAt, convL_self] at *); (try dsimp only [Shp.D, Shp.Ds, Shp.dflt, Shp.dflts] at *))); (try ((try dsimp only [Shp.D, Shp.Ds, Shp.dflt] at *); simp only [vem, veq, ne_eq, cmpI, arI, dvI, shI, SV.den, obLt, elemAt, obApp, partL, obPart, lowD, highD, mxOk, convL_self, zerosB, List.length_replicate, vln] at *; (try dsimp only [Shp.D, Shp.Ds, Shp.dflt, Shp.dflts] at *)))
   first
    | (have hq : reqF (i1, r1, n1, x1, f1, d1, PUnit.unit) = true := by assumption
       have e := need_t x1
       rw [← hq] at e
       have a1 : z1 22 < ((needT (reqF (i1, r1, n1, x1, f1, d1, PUnit.unit)) x1).length : Int) := by rw [← e]; assumption
       have a2 : ¬ cntI (tyP l) ((needT (reqF (i1, r1, n1, x1, f1, d1, PUnit.unit)) x1).getD (z1 22).toNat 0) l.length = 0 := by rw [← e]; exact h
       refine ⟨⟨by omega, by omega, fun i hi => ?_⟩, by omega⟩
       rcases (by omega : (i : Int) < z1 22 ∨ i = (z1 22).toNat) with k | k
       ·exact p3 i k
       ·subst k
        exact a2)
    | (have hq : reqF (i1, r1, n1, x1, f1, d1, PUnit.unit) = false := by assumption
       have e := need_f x1
       rw [← hq] at e
       have a1 : z1 22 < ((needT (reqF (i1, r1, n1, x1, f1, d1, PUnit.unit)) x1).length : Int) := by rw [← e]; assumption
       have a2 : ¬ cntI (tyP l) ((needT (reqF (i1, r1, n1, x1, f1, d1, PUnit.unit)) x1).getD (z1 22).toNat 0) l.length = 0 := by rw [← e]; exact h
       refine ⟨⟨by omega, by omega, fun i hi => ?_⟩, by omega⟩
       rcases (by omega : (i : Int) < z1 22 ∨ i = (z1 22).toNat) with k | k
       ·exact p3 i k
       ·subst k
        exact a2)
end Go.Proofs.Ytbdfijdianaghaa.V
