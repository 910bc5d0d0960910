/- message: sealed, Check. -/
import Derived.Test.YtbdfijdianaghaaVMe
set_option linter.unusedVariables false
set_option linter.unusedSimpArgs false
namespace Go.Proofs.Ytbdfijdianaghaa.V
open Go.RowKit
set_option maxHeartbeats 8000000
set_option maxRecDepth 100000
abbrev seaFn : Spec := fnFn [.int .i64] [.bool] (fun _ => True) fun (x : Shp.Ds [.int .i64]) => (sealT x.1, ())
theorem sea_fn : hasFn Try.prog 16 := ⟨_, Try.func16, by rfl, by rfl⟩
theorem sea_sp {E : Env} (hE : E.ok) : SpecOk Try.prog E 16 seaFn := by
 refine fnFn_of (post := fun (x : Shp.Ds [.int .i64]) (y : Shp.Ds [.bool]) => y.1 = sealT x.1) (spec_of_vc (C := noC) sea_fn Try.func16 (by kernel_rfl) noC_cx (fun x hl hx => ?_) hE) fun (x : Shp.Ds [.int .i64]) (y : Shp.Ds [.bool]) h => by rw [← h]
 obtain ⟨k, ⟨⟩⟩ := x
 cbv
 (repeat' (first | ((with_reducible apply And.intro <;> intro h) <;> (first | with_reducible exact (tf h (by assumption)).elim | with_reducible exact (tf (by assumption) h).elim | cbv)) | ((with_reducible show JoinT (fun s K => vc _ (Code.region _ _ true) s K) _ _ _ _ _ _); (with_reducible apply JoinT.mg2); (focus (cbv; (repeat' (first | ((with_reducible apply And.intro <;> intro h) <;> (first | with_reducible exact (tf h (by assumption)).elim | with_reducible exact (tf (by assumption) h).elim | cbv)) | ((with_reducible first | refine Cb.mk ?_ | refine Lz.mk ?_ | refine JoinT.left ?_ | (apply AllT.mk; intro x hx)); cbv) | ((with_reducible refine Ob.mk (fun _ => ?_) ?_); rotate_left 1) | (with_reducible first | refine Mg.mk (Exists.intro ?_ (And.intro ?_ ?_)) | rfl | refine Fin.mk ?_ | exact True.intro | refine And.intro ?_ ?_))); (all_goals (try (have du : Unit := (); have dv : Unit := (); first | exact Goes.self (Ex2.mk ⟨dv, du, trivial, trivial, rfl⟩) | exact Goes.self (Ex2.mk ⟨x, du, hx, trivial, rfl⟩) | (rename_i xa hxa; exact Goes.self (Ex2.mk ⟨xa, x, hxa, hx, rfl⟩))))); (all_goals (fail_if_success (with_reducible first | show Goes _ _ _ _ | show (∃ _, unr _ _ _ _ _ _))))))) | ((with_reducible first | refine Cb.mk ?_ | refine Lz.mk ?_ | refine JoinT.left ?_ | (apply AllT.mk; intro x hx)); cbv) | ((with_reducible refine Ob.mk (fun _ => ?_) ?_); rotate_left 1) | (with_reducible first | refine Mg.mk (Exists.intro ?_ (And.intro ?_ ?_)) | rfl | refine Fin.mk ?_ | exact True.intro | refine And.intro ?_ ?_)))
 all_goals first | (with_reducible show (∃ _, unr _ _ _ _ _ _); skip) | (with_reducible show UnrI _ _ _ _ _; skip) | (with_reducible show Goes _ _ _ _; skip) | (with_reducible show JoinT _ _ _ _ _ _ _; skip) | (first | ((try dsimp only [Shp.D, Shp.Ds, Shp.dflt] at *); simp only [vem, veq, ne_eq, cmpI, arI, dvI, shI, SV.den, obLt, elemAt, obApp, partL, obPart, lowD, highD, mxOk, convL_self, zerosB, List.length_replicate, vln] at *; (try dsimp only [Shp.D, Shp.Ds, Shp.dflt, Shp.dflts] at *); done) | ((try dsimp only [Shp.D, Shp.Ds, Shp.dflt] at *); simp only [vem, veq, ne_eq, cmpI, arI, dvI, shI, SV.den, obLt, elemAt, obApp, partL, obPart, lowD, highD, mxOk, convL_self, zerosB, List.length_replicate, vln] at *; (try dsimp only [Shp.D, Shp.Ds, Shp.dflt, Shp.dflts] at *); omega) | (((try dsimp only [Shp.D, Shp.Ds, Shp.dflt] at *); simp only [vem, veq, ne_eq, cmpI, arI, dvI, shI, SV.den, obLt, elemAt, obApp, partL, obPart, lowD, highD, mxOk, convL_self, zerosB, List.length_replicate, vln] at *; (try dsimp only [Shp.D, Shp.Ds, Shp.dflt, Shp.dflts] at *)); unfold sealT; simp_all; done) | (try ((try dsimp only [Shp.D, Shp.Ds, Shp.dflt] at *); simp only [vem, veq, ne_eq, cmpI, arI, dvI, shI, SV.den, obLt, elemAt, obApp, partL, obPart, lowD, highD, mxOk, convL_self, zerosB, List.length_replicate, vln] at *; (try dsimp only [Shp.D, Shp.Ds, Shp.dflt, Shp.dflts] at *))))
theorem chk_a {q : Bool} {x : Int} {t w : Nat → Int} {n : Nat} {b3 b4 : Bool} (p3 : b3 = hidI t n) (p4 : b4 = faiI t w n) (p5 : twI t n n = false) : chkI q x t w n = (if (b3 && decide (1 < n)) = true then 7 else if (b3 || b4) = true then 0 else if (!comI q x t w n || !(cntI t 44 n == cntI t 45 n)) = true then 8 else 0) := by
 unfold chkI
 rw [p5, ← p3, ← p4]
 simp
theorem chk_9 {q : Bool} {x : Int} {t w : Nat → Int} {n i : Nat} (hi : i < n) (a : ¬ t i = 41) (b : ¬ t i = 43) (c : ¬ t i = 37) (d : ¬ t i = 42) (h : cntI t (t i) n > 1) : 9 = chkI q x t w n := by
 unfold chkI
 rw [if_pos]
 unfold twI
 rw [anyI_iff]
 refine ⟨i, hi, ?_⟩
 simp [freeT, a, b, c, d]
 omega
def ckmC_t : SpecT := nd0 17 (lf0 16 (seaFn)) (nd0 18 (lf0 17 (cntFn)) (lf0 18 (comSp)))
def ckmC : Cx := ⟨tt, qt, bt, st, ckmC_t, 0, 1000000000000000, fun _ => none, false, CxE.no, []⟩
theorem ckmC_si {E : Env} (h : E.ok) : SpecsOk Try.prog E (CxE.no) ckmC_t (fun _ => none) := ⟨(nd0_ok (lf0_ok (.inl (sea_sp h))) (nd0_ok (lf0_ok (.inl (cnt_sp h))) (lf0_ok (.inl (com_sp h))))), noI_ok _ _ _⟩
theorem ckmC_x {E : Env} (h : E.ok) : CxEOk Try.prog E (CxE.no) := CxE.no_ok _ _
theorem ckmC_cx (E : Env) (h : E.ok) (h1 : E.lo = 0) (h2 : E.hi = 1000000000000000) : Cx.ok ckmC Try.prog E := ⟨tt_ok, qt_ok, bt_ok, ckmC_si h, h, h1, h2, mixed_ok, ckmC_x h⟩
theorem ckmC_from (lo hi : Nat) (E : Env) (h : E.ok) (h1 : E.lo = lo) (h2 : E.hi = hi) : Cx.ok (Cx.from ckmC lo hi) Try.prog E := ⟨tt_ok, qt_ok, bt_ok, ckmC_si h, h, h1, h2, mixed_ok, ckmC_x h⟩
theorem ckm_fn : hasFn Try.prog 8 := ⟨_, Try.func8, by rfl, by rfl⟩
abbrev ckmSp : Spec := fnSpec [msgE] [.int .i64] [] (fun (x : Shp.Ds [msgE]) => FewP x.1.2.1.length) fun (x : Shp.Ds [msgE]) (y : Shp.Ds [.int .i64]) => y.1 = chkI (reqF x.1.1) x.1.1.2.2.2.1 (tyP x.1.2.1) (noP x.1.2.1) x.1.2.1.length
theorem ckm_sp {E : Env} (hE : E.ok) : SpecOk Try.prog E 8 ckmSp := by
 refine spec_of_vc (C := ckmC) ckm_fn Try.func8 (by kernel_rfl) ckmC_cx (fun x hl hx => ?_) hE
 obtain ⟨⟨⟨i1, r1, n1, x1, f1, d1, ⟨⟩⟩, l, ⟨⟩⟩, ⟨⟩⟩ := x
 have hlen : l.length ≤ 1000000 := hx.h
 cbv
 (repeat' (first | ((with_reducible apply And.intro <;> intro h) <;> (first | with_reducible exact (tf h (by assumption)).elim | with_reducible exact (tf (by assumption) h).elim | cbv)) | ((with_reducible show JoinT (fun s K => vc _ (Code.region _ _ true) s K) _ _ _ _ _ _); (with_reducible apply JoinT.mg2); (focus (cbv; (repeat' (first | ((with_reducible apply And.intro <;> intro h) <;> (first | with_reducible exact (tf h (by assumption)).elim | with_reducible exact (tf (by assumption) h).elim | cbv)) | ((with_reducible first | refine Cb.mk ?_ | refine Lz.mk ?_ | refine JoinT.left ?_ | (apply AllT.mk; intro x hx)); cbv) | ((with_reducible refine Ob.mk (fun _ => ?_) ?_); rotate_left 1) | (with_reducible first | refine Mg.mk (Exists.intro ?_ (And.intro ?_ ?_)) | rfl | refine Fin.mk ?_ | exact True.intro | refine And.intro ?_ ?_))); (all_goals (try (have du : Unit := (); have dv : Unit := (); first | exact Goes.self (Ex2.mk ⟨dv, du, trivial, trivial, rfl⟩) | exact Goes.self (Ex2.mk ⟨x, du, hx, trivial, rfl⟩) | (rename_i xa hxa; exact Goes.self (Ex2.mk ⟨xa, x, hxa, hx, rfl⟩))))); (all_goals (fail_if_success (with_reducible first | show Goes _ _ _ _ | show (∃ _, unr _ _ _ _ _ _))))))) | ((with_reducible first | refine Cb.mk ?_ | refine Lz.mk ?_ | refine JoinT.left ?_ | (apply AllT.mk; intro x hx)); cbv) | ((with_reducible refine Ob.mk (fun _ => ?_) ?_); rotate_left 1) | (with_reducible first | refine Mg.mk (Exists.intro ?_ (And.intro ?_ ?_)) | rfl | refine Fin.mk ?_ | exact True.intro | refine And.intro ?_ ?_)))
 all_goals first | (with_reducible show (∃ _, unr _ _ _ _ _ _); skip) | (with_reducible show UnrI _ _ _ _ _; skip) | (with_reducible show Goes _ _ _ _; skip) | (with_reducible show JoinT _ _ _ _ _ _ _; skip) | (first | ((try dsimp only [Shp.D, Shp.Ds, Shp.dflt] at *); simp only [vem, veq, ne_eq, cmpI, arI, dvI, shI, SV.den, obLt, elemAt, obApp, partL, obPart, lowD, highD, mxOk, convL_self, zerosB, List.length_replicate, vln] at *; (try dsimp only [Shp.D, Shp.Ds, Shp.dflt, Shp.dflts] at *); done) | ((try dsimp only [Shp.D, Shp.Ds, Shp.dflt] at *); simp only [vem, veq, ne_eq, cmpI, arI, dvI, shI, SV.den, obLt, elemAt, obApp, partL, obPart, lowD, highD, mxOk, convL_self, zerosB, List.length_replicate, vln] at *; (try dsimp only [Shp.D, Shp.Ds, Shp.dflt, Shp.dflts] at *); omega) | (try ((try dsimp only [Shp.D, Shp.Ds, Shp.dflt] at *); simp only [vem, veq, ne_eq, cmpI, arI, dvI, shI, SV.den, obLt, elemAt, obApp, partL, obPart, lowD, highD, mxOk, convL_self, zerosB, List.length_replicate, vln] at *; (try dsimp only [Shp.D, Shp.Ds, Shp.dflt, Shp.dflts] at *))))
 with_reducible refine loop_hv [] (6 :: rangeN 11 30) [] [] (fun z b t y => 0 ≤ z 10 ∧ z 10 ≤ (l.length : Int) ∧ b 3 = hidI (tyP l) (z 10).toNat ∧ b 4 = faiI (tyP l) (noP l) (z 10).toNat ∧ twI (tyP l) l.length (z 10).toNat = false) (fun z b t y => ((l.length : Int) - z 10).toNat) (by cbv) (by cbv) ?_ ?_ (fun z1 b1 t1 u1 y1 R1 hP1 hR1 => ?_)
 ·refine EndOk.mk (by cbv) (by cbv) (by cbv; repeat' (first | exact True.intro | exact rfl | with_reducible refine And.intro ?_ ?_)) (by cbv; repeat' (first | exact True.intro | exact rfl | with_reducible refine And.intro ?_ ?_)) (by cbv; repeat' (first | exact True.intro | exact rfl | with_reducible refine And.intro ?_ ?_))
 ·intro zq bq tq yq hUq
  have q10 := hUq.z 10
  cbv at q10
  replace q10 := q10.eq
  simp only [atI, vem, veq, ne_eq, cmpI, arI, dvI, shI, SV.den] at q10
  have qb3 := hUq.b 3
  cbv at qb3
  replace qb3 := qb3.eq
  simp only [atB, vem, veq, ne_eq, cmpI, arI, dvI, shI, SV.den] at qb3
  have qb4 := hUq.b 4
  cbv at qb4
  replace qb4 := qb4.eq
  simp only [atB, vem, veq, ne_eq, cmpI, arI, dvI, shI, SV.den] at qb4
  clear hUq
  try dsimp only [Shp.D, Shp.Ds, Shp.dflt] at *
  try simp only [vem, veq, ne_eq, cmpI, arI, dvI, shI, SV.den, convL_self] at *
  rw [← q10, ← qb3, ← qb4]
  exact ⟨by omega, by omega, rfl, rfl, rfl⟩
 obtain ⟨p1, p2, p3, p4, p5⟩ := hP1
 cbv
 (repeat' (first | ((with_reducible apply And.intro <;> intro h) <;> (first | with_reducible exact (tf h (by assumption)).elim | with_reducible exact (tf (by assumption) h).elim | cbv)) | ((with_reducible show JoinT (fun s K => vc _ (Code.region _ _ true) s K) _ _ _ _ _ _); (with_reducible apply JoinT.mg2); (focus (cbv; (repeat' (first | ((with_reducible apply And.intro <;> intro h) <;> (first | with_reducible exact (tf h (by assumption)).elim | with_reducible exact (tf (by assumption) h).elim | cbv)) | ((with_reducible first | refine Cb.mk ?_ | refine Lz.mk ?_ | refine JoinT.left ?_ | (apply AllT.mk; intro x hx)); cbv) | ((with_reducible refine Ob.mk (fun _ => ?_) ?_); rotate_left 1) | (with_reducible first | refine Mg.mk (Exists.intro ?_ (And.intro ?_ ?_)) | rfl | refine Fin.mk ?_ | exact True.intro | refine And.intro ?_ ?_))); (all_goals (try (have du : Unit := (); have dv : Unit := (); first | exact Goes.self (Ex2.mk ⟨dv, du, trivial, trivial, rfl⟩) | exact Goes.self (Ex2.mk ⟨x, du, hx, trivial, rfl⟩) | (rename_i xa hxa; exact Goes.self (Ex2.mk ⟨xa, x, hxa, hx, rfl⟩))))); (all_goals (fail_if_success (with_reducible first | show Goes _ _ _ _ | show (∃ _, unr _ _ _ _ _ _))))))) | ((with_reducible first | refine Cb.mk ?_ | refine Lz.mk ?_ | refine JoinT.left ?_ | (apply AllT.mk; intro x hx)); cbv) | ((with_reducible refine Ob.mk (fun _ => ?_) ?_); rotate_left 1) | (with_reducible first | refine Mg.mk (Exists.intro ?_ (And.intro ?_ ?_)) | rfl | refine Fin.mk ?_ | exact True.intro | refine And.intro ?_ ?_)))
 all_goals first
  | (with_reducible show Goes _ _ _ _; skip)
  | ((try dsimp only [Shp.D, Shp.Ds, Shp.dflt] at *); simp only [vem, veq, ne_eq, cmpI, arI, dvI, shI, SV.den, obLt, elemAt, obApp, partL, obPart, lowD, highD, mxOk, convL_self, zerosB, List.length_replicate, vln] at *; (try dsimp only [Shp.D, Shp.Ds, Shp.dflt, Shp.dflts] at *); done)
  | (((try dsimp only [Shp.D, Shp.Ds, Shp.dflt] at *); simp only [vem, veq, ne_eq, cmpI, arI, dvI, shI, SV.den, obLt, elemAt, obApp, partL, obPart, lowD, highD, mxOk, convL_self, zerosB, List.length_replicate, vln] at *; (try dsimp only [Shp.D, Shp.Ds, Shp.dflt, Shp.dflts] at *)); omega)
  | (((try dsimp only [Shp.D, Shp.Ds, Shp.dflt] at *); simp only [vem, veq, ne_eq, cmpI, arI, dvI, shI, SV.den, obLt, elemAt, obApp, partL, obPart, lowD, highD, mxOk, convL_self, zerosB, List.length_replicate, vln] at *; (try dsimp only [Shp.D, Shp.Ds, Shp.dflt, Shp.dflts] at *)); exact chk_9 (t := tyP l) (i := (z1 10).toNat) (by omega) (by assumption) (by assumption) (by assumption) (by assumption) h)
  | (((try dsimp only [Shp.D, Shp.Ds, Shp.dflt] at *); simp only [vem, veq, ne_eq, cmpI, arI, dvI, shI, SV.den, obLt, elemAt, obApp, partL, obPart, lowD, highD, mxOk, convL_self, zerosB, List.length_replicate, vln] at *; (try dsimp only [Shp.D, Shp.Ds, Shp.dflt, Shp.dflts] at *))
     have e : (z1 10).toNat = l.length := by omega
     rw [e] at p3 p4 p5
     rw [chk_a p3 p4 p5]
     clear p3 p4 p5 hl
     simp_all
     (try omega))
  | (try ((try dsimp only [Shp.D, Shp.Ds, Shp.dflt] at *); simp only [vem, veq, ne_eq, cmpI, arI, dvI, shI, SV.den, obLt, elemAt, obApp, partL, obPart, lowD, highD, mxOk, convL_self, zerosB, List.length_replicate, vln] at *; (try dsimp only [Shp.D, Shp.Ds, Shp.dflt, Shp.dflts] at *)))
 all_goals
  (((with_reducible refine hR1 _ ?_ (fun zq bq tq yq hUq => ?_)); (focus (refine EndOk.mk (by cbv) (by cbv) (by cbv; repeat' (first | exact True.intro | exact rfl | with_reducible refine And.intro ?_ ?_)) (by cbv; repeat' (first | exact True.intro | exact rfl | with_reducible refine And.intro ?_ ?_)) (by cbv; repeat' (first | exact True.intro | exact rfl | with_reducible refine And.intro ?_ ?_)))); (have q10 := hUq.z 10); (cbv at q10); (replace q10 := q10.eq); (simp only [atI, vem, veq, ne_eq, cmpI, arI, dvI, shI, SV.den] at q10); (have qb3 := hUq.b 3); (cbv at qb3); (replace qb3 := qb3.eq); (simp only [atB, vem, veq, ne_eq, cmpI, arI, dvI, shI, SV.den] at qb3); (have qb4 := hUq.b 4); (cbv at qb4); (replace qb4 := qb4.eq); (simp only [atB, vem, veq, ne_eq, cmpI, arI, dvI, shI, SV.den] at qb4); (clear hUq hR1); (try dsimp only [Shp.D, Shp.Ds, Shp.dflt] at *); (try simp only [vem, veq, ne_eq, cmpI, arI, dvI, shI, SV.den, elemAt, convL_self] at *); (try dsimp only [Shp.D, Shp.Ds, Shp.dflt, Shp.dflts] at *))); (try ((try dsimp only [Shp.D, Shp.Ds, Shp.dflt] at *); simp only [vem, veq, ne_eq, cmpI, arI, dvI, shI, SV.den, obLt, elemAt, obApp, partL, obPart, lowD, highD, mxOk, convL_self, zerosB, List.length_replicate, vln] at *; (try dsimp only [Shp.D, Shp.Ds, Shp.dflt, Shp.dflts] at *)))
  have hT : ∀ i : Nat, (l.getD i pl0).1 = tyP l i := fun _ => rfl
  have hN : ∀ i : Nat, (l.getD i pl0).2.2.2.2.2.1.2.2.1 = noP l i := fun _ => rfl
  simp only [hT, hN] at *
  rw [show (zq 10).toNat = (z1 10).toNat + 1 by omega]
  refine ⟨⟨by omega, by omega, ?_, ?_, ?_⟩, by omega⟩
  ·rw [← qb3]
   simp_all [hidI, anyI, sealT]
  ·rw [← qb4]
   simp_all [faiI, anyI]
  ·simp_all [twI, anyI, freeT]
end Go.Proofs.Ytbdfijdianaghaa.V
