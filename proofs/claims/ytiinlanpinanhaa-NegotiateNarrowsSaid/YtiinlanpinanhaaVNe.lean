/- Contracts: rules are drawn; the first box of a rule that narrows. -/
import Derived.Test.YtiinlanpinanhaaVNg
set_option linter.unusedVariables false
set_option linter.unusedSimpArgs false
namespace Go.Proofs.Ytiinlanpinanhaa.V
open Go.RowKit
set_option maxHeartbeats 8000000
set_option maxRecDepth 100000
/-- A rule: action, template, boxes. -/
abbrev ruleE : Shp := .st [.int .i64, .str, .sl boxE]
abbrev RuleT : Type := Int × ByteArray × List BoxT × Unit
structure RulG (l : List RuleT) : Prop where
  len : l.length ≤ 4
  bx : ∀ r ∈ l, ∀ b ∈ r.2.2.1, BoxG b
  nb : ∀ r ∈ l, r.2.2.1.length ≤ 2
abbrev nextS : Spec := drSpec 94 [.int .i64] [.int .i64] [] nextPre nextPost
abbrev drRul : Spec := drSpec 94 [.int .i64] [.sl ruleE] [.sh] (fun x => x.1 = 4) (fun _ y => RulG y.1)
theorem le2_of {n : Nat} {z : Int} (h : (n : Int) + z ≤ 2) (h0 : 0 ≤ z) : n ≤ 2 := by omega
def drlC_t : SpecT := nd0 45 (lf0 24 (nextS)) (lf0 45 (drBox))
def drlC : Cx := ⟨tt, qt, bt, st, drlC_t, 0, 1000000000000000, fun _ => none, false⟩
theorem drlC_si {E : Env} (h : E.ok) : SpecsOk Try.prog E drlC_t (fun _ => none) := ⟨(nd0_ok (lf0_ok (next_sp h)) (lf0_ok (dbx_sp h))), noI_ok _ _⟩
theorem drlC_cx (E : Env) (h : E.ok) (h1 : E.lo = 0) (h2 : E.hi = 1000000000000000) : Cx.ok drlC Try.prog E := ⟨tt_ok, qt_ok, bt_ok, drlC_si h, h, h1, h2, mixed_ok⟩
theorem drlC_from (lo hi : Nat) (E : Env) (h : E.ok) (h1 : E.lo = lo) (h2 : E.hi = hi) : Cx.ok (Cx.from drlC lo hi) Try.prog E := ⟨tt_ok, qt_ok, bt_ok, drlC_si h, h, h1, h2, mixed_ok⟩
theorem drl_fn : hasFn Try.prog 50 := ⟨_, Try.func50, by rfl, by rfl⟩
theorem drl_sp {E : Env} (hE : E.ok) : SpecOk Try.prog E 50 drRul := by
  refine spec_of_vcD (C := drlC) drl_fn Try.func50 (by kernel_rfl) drlC_cx (fun x hl hx => ?_) hE
  obtain ⟨m, ⟨⟩⟩ := x
  obtain rfl : m = 4 := hx
  cbv
  (repeat' (first | ((with_reducible refine And.intro (fun h => ?_) (fun h => ?_)) <;> (first | with_reducible exact (tf h (by assumption)).elim | with_reducible exact (tf (by assumption) h).elim | cbv)) | ((with_reducible show JoinT (fun s K => vc _ (Code.region _ _ true) s K) _ _ _ _ _); (with_reducible apply JoinT.mg2); (focus (cbv; (repeat' (first | ((with_reducible refine And.intro (fun h => ?_) (fun h => ?_)) <;> (first | with_reducible exact (tf h (by assumption)).elim | with_reducible exact (tf (by assumption) h).elim | cbv)) | ((with_reducible first | refine Cb.mk ?_ | refine Lz.mk ?_ | refine JoinT.left ?_ | refine AllT.mk (fun x hx => ?_)); cbv) | ((with_reducible refine Ob.mk (fun _ => ?_) ?_); rotate_left 1) | (with_reducible first | refine Mg.mk (Exists.intro ?_ (And.intro ?_ ?_)) | rfl | refine Fin.mk ?_ | exact True.intro | refine And.intro ?_ ?_))); (all_goals (try (have du : Unit := (); have dv : Unit := (); first | exact Goes.self (Ex2.mk ⟨dv, du, trivial, trivial, rfl⟩) | exact Goes.self (Ex2.mk ⟨x, du, hx, trivial, rfl⟩) | (rename_i xa hxa; exact Goes.self (Ex2.mk ⟨xa, x, hxa, hx, rfl⟩))))); (all_goals (fail_if_success (with_reducible first | show Goes _ _ _ _ | show (∃ _, unr _ _ _ _ _ _))))))) | ((with_reducible first | refine Cb.mk ?_ | refine Lz.mk ?_ | refine JoinT.left ?_ | refine AllT.mk (fun x hx => ?_)); cbv) | ((with_reducible refine Ob.mk (fun _ => ?_) ?_); rotate_left 1) | (with_reducible first | refine Mg.mk (Exists.intro ?_ (And.intro ?_ ?_)) | rfl | refine Fin.mk ?_ | exact True.intro | refine And.intro ?_ ?_)))
  all_goals first | (with_reducible show (∃ _, unr _ _ _ _ _ _); skip) | (with_reducible show Goes _ _ _ _; skip) | (with_reducible show JoinT _ _ _ _ _ _; skip) | (first | ((try dsimp only [Shp.D, Shp.Ds, Shp.dflt] at *); simp only [vem, veq, ne_eq, cmpI, arI, dvI, shI, SV.den, obLt, elemAt, obApp, partL, obPart, lowD, highD, mxOk, convL_self, zerosB, List.length_replicate, vln] at *; (try dsimp only [Shp.D, Shp.Ds, Shp.dflt, Shp.dflts] at *); done) | ((try dsimp only [Shp.D, Shp.Ds, Shp.dflt] at *); simp only [vem, veq, ne_eq, cmpI, arI, dvI, shI, SV.den, obLt, elemAt, obApp, partL, obPart, lowD, highD, mxOk, convL_self, zerosB, List.length_replicate, vln] at *; (try dsimp only [Shp.D, Shp.Ds, Shp.dflt, Shp.dflts] at *); omega))
  with_reducible refine loop_hv [(5, 900000, 91, ruleE)] (7 :: 8 :: rangeN 13 35) [] [900000] (fun z b t y => 0 ≤ z 6 ∧ ((y 900000 ruleE).length : Int) + z 6 ≤ 4 ∧ ∀ r ∈ y 900000 ruleE, r.2.2.1.length ≤ 2 ∧ ∀ b ∈ r.2.2.1, BoxG b) (fun z b t y => (z 6).toNat) (by cbv) (by cbv) ?_ ?_ (fun z1 b1 t1 u1 y1 R1 hP1 hR1 => ?_)
  · refine EndOk.mk (by cbv) (by cbv) (by cbv; repeat' (first | exact True.intro | exact rfl | with_reducible refine And.intro ?_ ?_)) (by cbv; repeat' (first | exact True.intro | exact rfl | with_reducible refine And.intro ?_ ?_)) (by cbv; repeat' (first | exact True.intro | exact rfl | with_reducible refine And.intro ?_ ?_))
  · intro zq bq tq yq hUq
    have q6 := hUq.z 6
    cbv at q6
    replace q6 := q6.eq
    simp only [atI, vem, veq, ne_eq, cmpI, arI, dvI, shI, SV.den] at q6
    have qy900000 := hUq.y 900000 (ruleE)
    cbv at qy900000
    replace qy900000 := qy900000.eq
    simp only [atY, convL_self, vem, veq, ne_eq, cmpI, arI, dvI, shI, SV.den] at qy900000
    clear hUq
    try dsimp only [Shp.D, Shp.Ds, Shp.dflt] at *
    try simp only [vem, veq, ne_eq, cmpI, arI, dvI, shI, SV.den, convL_self] at *
    rw [← q6, ← qy900000]
    exact ⟨by omega, by simp only [List.length_nil]; omega, fun r hr => by cases hr⟩
  obtain ⟨p1, p2, p3⟩ := hP1
  cbv
  (repeat' (first | ((with_reducible refine And.intro (fun h => ?_) (fun h => ?_)) <;> (first | with_reducible exact (tf h (by assumption)).elim | with_reducible exact (tf (by assumption) h).elim | cbv)) | ((with_reducible show JoinT (fun s K => vc _ (Code.region _ _ true) s K) _ _ _ _ _); (with_reducible apply JoinT.mg2); (focus (cbv; (repeat' (first | ((with_reducible refine And.intro (fun h => ?_) (fun h => ?_)) <;> (first | with_reducible exact (tf h (by assumption)).elim | with_reducible exact (tf (by assumption) h).elim | cbv)) | ((with_reducible first | refine Cb.mk ?_ | refine Lz.mk ?_ | refine JoinT.left ?_ | refine AllT.mk (fun x hx => ?_)); cbv) | ((with_reducible refine Ob.mk (fun _ => ?_) ?_); rotate_left 1) | (with_reducible first | refine Mg.mk (Exists.intro ?_ (And.intro ?_ ?_)) | rfl | refine Fin.mk ?_ | exact True.intro | refine And.intro ?_ ?_))); (all_goals (try (have du : Unit := (); have dv : Unit := (); first | exact Goes.self (Ex2.mk ⟨dv, du, trivial, trivial, rfl⟩) | exact Goes.self (Ex2.mk ⟨x, du, hx, trivial, rfl⟩) | (rename_i xa hxa; exact Goes.self (Ex2.mk ⟨xa, x, hxa, hx, rfl⟩))))); (all_goals (fail_if_success (with_reducible first | show Goes _ _ _ _ | show (∃ _, unr _ _ _ _ _ _))))))) | ((with_reducible first | refine Cb.mk ?_ | refine Lz.mk ?_ | refine JoinT.left ?_ | refine AllT.mk (fun x hx => ?_)); cbv) | ((with_reducible refine Ob.mk (fun _ => ?_) ?_); rotate_left 1) | (with_reducible first | refine Mg.mk (Exists.intro ?_ (And.intro ?_ ?_)) | rfl | refine Fin.mk ?_ | exact True.intro | refine And.intro ?_ ?_)))
  all_goals first | (with_reducible show (∃ _, unr _ _ _ _ _ _); skip) | (with_reducible show Goes _ _ _ _; skip) | (with_reducible show JoinT _ _ _ _ _ _; skip) | (first | ((try dsimp only [Shp.D, Shp.Ds, Shp.dflt] at *); simp only [vem, veq, ne_eq, cmpI, arI, dvI, shI, SV.den, obLt, elemAt, obApp, partL, obPart, lowD, highD, mxOk, convL_self, zerosB, List.length_replicate, vln] at *; (try dsimp only [Shp.D, Shp.Ds, Shp.dflt, Shp.dflts] at *); done) | ((try dsimp only [Shp.D, Shp.Ds, Shp.dflt] at *); simp only [vem, veq, ne_eq, cmpI, arI, dvI, shI, SV.den, obLt, elemAt, obApp, partL, obPart, lowD, highD, mxOk, convL_self, zerosB, List.length_replicate, vln] at *; (try dsimp only [Shp.D, Shp.Ds, Shp.dflt, Shp.dflts] at *); omega) | ((try dsimp only [Shp.D, Shp.Ds, Shp.dflt] at *); simp only [vem, veq, ne_eq, cmpI, arI, dvI, shI, SV.den, obLt, elemAt, obApp, partL, obPart, lowD, highD, mxOk, convL_self, zerosB, List.length_replicate, vln] at *; (try dsimp only [Shp.D, Shp.Ds, Shp.dflt, Shp.dflts] at *); exact ⟨by omega, fun r hr b hb => (p3 r hr).2 b hb, fun r hr => (p3 r hr).1⟩) | (try ((try dsimp only [Shp.D, Shp.Ds, Shp.dflt] at *); simp only [vem, veq, ne_eq, cmpI, arI, dvI, shI, SV.den, obLt, elemAt, obApp, partL, obPart, lowD, highD, mxOk, convL_self, zerosB, List.length_replicate, vln] at *; (try dsimp only [Shp.D, Shp.Ds, Shp.dflt, Shp.dflts] at *))))
  · with_reducible refine loop_hv [(57624642, 950000, 78, boxE)] (rangeN 32 16) [900321] [950000] (fun z b t y => 0 ≤ z 8 ∧ ((y 950000 boxE).length : Int) + z 8 ≤ 2 ∧ ∀ b ∈ y 950000 boxE, BoxG b) (fun z b t y => (z 8).toNat) (by cbv) (by cbv) ?_ ?_ (fun z2 b2 t2 u2 y2 R2 hP2 hR2 => ?_)
    · refine EndOk.mk (by cbv) (by cbv) (by cbv; repeat' (first | exact True.intro | exact rfl | with_reducible refine And.intro ?_ ?_)) (by cbv; repeat' (first | exact True.intro | exact rfl | with_reducible refine And.intro ?_ ?_)) (by cbv; repeat' (first | exact True.intro | exact rfl | with_reducible refine And.intro ?_ ?_))
    · intro zq bq tq yq hUq
      have q8 := hUq.z 8
      cbv at q8
      replace q8 := q8.eq
      simp only [atI, vem, veq, ne_eq, cmpI, arI, dvI, shI, SV.den] at q8
      have qy950000 := hUq.y 950000 (boxE)
      cbv at qy950000
      replace qy950000 := qy950000.eq
      simp only [atY, convL_self, vem, veq, ne_eq, cmpI, arI, dvI, shI, SV.den] at qy950000
      clear hUq
      try dsimp only [Shp.D, Shp.Ds, Shp.dflt] at *
      try simp only [vem, veq, ne_eq, cmpI, arI, dvI, shI, SV.den, convL_self] at *
      rw [← q8, ← qy950000]
      exact ⟨by omega, by simp only [List.length_nil]; omega, fun r hr => by cases hr⟩
    obtain ⟨r1, r2, r3⟩ := hP2
    cbv
    (repeat' (first | ((with_reducible refine And.intro (fun h => ?_) (fun h => ?_)) <;> (first | with_reducible exact (tf h (by assumption)).elim | with_reducible exact (tf (by assumption) h).elim | cbv)) | ((with_reducible show JoinT (fun s K => vc _ (Code.region _ _ true) s K) _ _ _ _ _); (with_reducible apply JoinT.mg2); (focus (cbv; (repeat' (first | ((with_reducible refine And.intro (fun h => ?_) (fun h => ?_)) <;> (first | with_reducible exact (tf h (by assumption)).elim | with_reducible exact (tf (by assumption) h).elim | cbv)) | ((with_reducible first | refine Cb.mk ?_ | refine Lz.mk ?_ | refine JoinT.left ?_ | refine AllT.mk (fun x hx => ?_)); cbv) | ((with_reducible refine Ob.mk (fun _ => ?_) ?_); rotate_left 1) | (with_reducible first | refine Mg.mk (Exists.intro ?_ (And.intro ?_ ?_)) | rfl | refine Fin.mk ?_ | exact True.intro | refine And.intro ?_ ?_))); (all_goals (try (have du : Unit := (); have dv : Unit := (); first | exact Goes.self (Ex2.mk ⟨dv, du, trivial, trivial, rfl⟩) | exact Goes.self (Ex2.mk ⟨x, du, hx, trivial, rfl⟩) | (rename_i xa hxa; exact Goes.self (Ex2.mk ⟨xa, x, hxa, hx, rfl⟩))))); (all_goals (fail_if_success (with_reducible first | show Goes _ _ _ _ | show (∃ _, unr _ _ _ _ _ _))))))) | ((with_reducible first | refine Cb.mk ?_ | refine Lz.mk ?_ | refine JoinT.left ?_ | refine AllT.mk (fun x hx => ?_)); cbv) | ((with_reducible refine Ob.mk (fun _ => ?_) ?_); rotate_left 1) | (with_reducible first | refine Mg.mk (Exists.intro ?_ (And.intro ?_ ?_)) | rfl | refine Fin.mk ?_ | exact True.intro | refine And.intro ?_ ?_)))
    all_goals first | (with_reducible show (∃ _, unr _ _ _ _ _ _); skip) | (with_reducible show Goes _ _ _ _; skip) | (with_reducible show JoinT _ _ _ _ _ _; skip) | (first | ((try dsimp only [Shp.D, Shp.Ds, Shp.dflt] at *); simp only [vem, veq, ne_eq, cmpI, arI, dvI, shI, SV.den, obLt, elemAt, obApp, partL, obPart, lowD, highD, mxOk, convL_self, zerosB, List.length_replicate, vln] at *; (try dsimp only [Shp.D, Shp.Ds, Shp.dflt, Shp.dflts] at *); done) | ((try dsimp only [Shp.D, Shp.Ds, Shp.dflt] at *); simp only [vem, veq, ne_eq, cmpI, arI, dvI, shI, SV.den, obLt, elemAt, obApp, partL, obPart, lowD, highD, mxOk, convL_self, zerosB, List.length_replicate, vln] at *; (try dsimp only [Shp.D, Shp.Ds, Shp.dflt, Shp.dflts] at *); omega) | (try ((try dsimp only [Shp.D, Shp.Ds, Shp.dflt] at *); simp only [vem, veq, ne_eq, cmpI, arI, dvI, shI, SV.den, obLt, elemAt, obApp, partL, obPart, lowD, highD, mxOk, convL_self, zerosB, List.length_replicate, vln] at *; (try dsimp only [Shp.D, Shp.Ds, Shp.dflt, Shp.dflts] at *))))
    · with_reducible refine hR2 _ ?_ (fun zq bq tq yq hUq => ?_)
      · refine EndOk.mk (by cbv) (by cbv) (by cbv; repeat' (first | exact True.intro | exact rfl | with_reducible refine And.intro ?_ ?_)) (by cbv; repeat' (first | exact True.intro | exact rfl | with_reducible refine And.intro ?_ ?_)) (by cbv; repeat' (first | exact True.intro | exact rfl | with_reducible refine And.intro ?_ ?_))
      have q8 := hUq.z 8
      cbv at q8
      replace q8 := q8.eq
      simp only [atI, vem, veq, ne_eq, cmpI, arI, dvI, shI, SV.den] at q8
      have qy950000 := hUq.y 950000 (boxE)
      cbv at qy950000
      replace qy950000 := qy950000.eq
      simp only [atY, convL_self, vem, veq, ne_eq, cmpI, arI, dvI, shI, SV.den] at qy950000
      clear hUq hR2
      try dsimp only [Shp.D, Shp.Ds, Shp.dflt] at *
      try simp only [vem, veq, ne_eq, cmpI, arI, dvI, shI, SV.den, elemAt, convL_self] at *
      try dsimp only [Shp.D, Shp.Ds, Shp.dflt, Shp.dflts] at *
      rw [← qy950000]
      simp only [List.length_append, List.length_cons, List.length_nil]
      refine ⟨⟨by omega, by omega, fun b hb => ?_⟩, by omega⟩
      rcases List.mem_append.1 hb with hb | hb
      · exact r3 b hb
      · rw [List.mem_singleton] at hb
        rw [hb]
        exact (‹BoxG _ ∧ _›).1
    · with_reducible refine hR2 _ ?_ (fun zq bq tq yq hUq => ?_)
      · refine EndOk.mk (by cbv) (by cbv) (by cbv; repeat' (first | exact True.intro | exact rfl | with_reducible refine And.intro ?_ ?_)) (by cbv; repeat' (first | exact True.intro | exact rfl | with_reducible refine And.intro ?_ ?_)) (by cbv; repeat' (first | exact True.intro | exact rfl | with_reducible refine And.intro ?_ ?_))
      have q8 := hUq.z 8
      cbv at q8
      replace q8 := q8.eq
      simp only [atI, vem, veq, ne_eq, cmpI, arI, dvI, shI, SV.den] at q8
      have qy950000 := hUq.y 950000 (boxE)
      cbv at qy950000
      replace qy950000 := qy950000.eq
      simp only [atY, convL_self, vem, veq, ne_eq, cmpI, arI, dvI, shI, SV.den] at qy950000
      clear hUq hR2
      try dsimp only [Shp.D, Shp.Ds, Shp.dflt] at *
      try simp only [vem, veq, ne_eq, cmpI, arI, dvI, shI, SV.den, elemAt, convL_self] at *
      try dsimp only [Shp.D, Shp.Ds, Shp.dflt, Shp.dflts] at *
      rw [← qy950000]
      simp only [List.length_append, List.length_cons, List.length_nil]
      refine ⟨⟨by omega, by omega, fun b hb => ?_⟩, by omega⟩
      rcases List.mem_append.1 hb with hb | hb
      · exact r3 b hb
      · rw [List.mem_singleton] at hb
        rw [hb]
        exact (‹BoxG _ ∧ _›).1
    · with_reducible refine hR2 _ ?_ (fun zq bq tq yq hUq => ?_)
      · refine EndOk.mk (by cbv) (by cbv) (by cbv; repeat' (first | exact True.intro | exact rfl | with_reducible refine And.intro ?_ ?_)) (by cbv; repeat' (first | exact True.intro | exact rfl | with_reducible refine And.intro ?_ ?_)) (by cbv; repeat' (first | exact True.intro | exact rfl | with_reducible refine And.intro ?_ ?_))
      have q8 := hUq.z 8
      cbv at q8
      replace q8 := q8.eq
      simp only [atI, vem, veq, ne_eq, cmpI, arI, dvI, shI, SV.den] at q8
      have qy950000 := hUq.y 950000 (boxE)
      cbv at qy950000
      replace qy950000 := qy950000.eq
      simp only [atY, convL_self, vem, veq, ne_eq, cmpI, arI, dvI, shI, SV.den] at qy950000
      clear hUq hR2
      try dsimp only [Shp.D, Shp.Ds, Shp.dflt] at *
      try simp only [vem, veq, ne_eq, cmpI, arI, dvI, shI, SV.den, elemAt, convL_self] at *
      try dsimp only [Shp.D, Shp.Ds, Shp.dflt, Shp.dflts] at *
      rw [← qy950000]
      simp only [List.length_append, List.length_cons, List.length_nil]
      refine ⟨⟨by omega, by omega, fun b hb => ?_⟩, by omega⟩
      rcases List.mem_append.1 hb with hb | hb
      · exact r3 b hb
      · rw [List.mem_singleton] at hb
        rw [hb]
        exact (‹BoxG _ ∧ _›).1
    · with_reducible refine hR1 _ ?_ (fun zq bq tq yq hUq => ?_)
      · refine EndOk.mk (by cbv) (by cbv) (by cbv; repeat' (first | exact True.intro | exact rfl | with_reducible refine And.intro ?_ ?_)) (by cbv; repeat' (first | exact True.intro | exact rfl | with_reducible refine And.intro ?_ ?_)) (by cbv; repeat' (first | exact True.intro | exact rfl | with_reducible refine And.intro ?_ ?_))
      have q6 := hUq.z 6
      cbv at q6
      replace q6 := q6.eq
      simp only [atI, vem, veq, ne_eq, cmpI, arI, dvI, shI, SV.den] at q6
      have qy900000 := hUq.y 900000 (ruleE)
      cbv at qy900000
      replace qy900000 := qy900000.eq
      simp only [atY, convL_self, vem, veq, ne_eq, cmpI, arI, dvI, shI, SV.den] at qy900000
      clear hUq hR1
      try dsimp only [Shp.D, Shp.Ds, Shp.dflt] at *
      try simp only [vem, veq, ne_eq, cmpI, arI, dvI, shI, SV.den, elemAt, convL_self] at *
      try dsimp only [Shp.D, Shp.Ds, Shp.dflt, Shp.dflts] at *
      rw [← qy900000]
      simp only [List.length_append, List.length_cons, List.length_nil]
      refine ⟨⟨by omega, by omega, fun r hr => ?_⟩, by omega⟩
      rcases List.mem_append.1 hr with hr | hr
      · exact p3 r hr
      · rw [List.mem_singleton] at hr
        rw [hr]
        exact ⟨le2_of r2 r1, r3⟩
  · with_reducible refine loop_hv [(57624642, 950000, 78, boxE)] (rangeN 32 16) [900321] [950000] (fun z b t y => 0 ≤ z 8 ∧ ((y 950000 boxE).length : Int) + z 8 ≤ 2 ∧ ∀ b ∈ y 950000 boxE, BoxG b) (fun z b t y => (z 8).toNat) (by cbv) (by cbv) ?_ ?_ (fun z2 b2 t2 u2 y2 R2 hP2 hR2 => ?_)
    · refine EndOk.mk (by cbv) (by cbv) (by cbv; repeat' (first | exact True.intro | exact rfl | with_reducible refine And.intro ?_ ?_)) (by cbv; repeat' (first | exact True.intro | exact rfl | with_reducible refine And.intro ?_ ?_)) (by cbv; repeat' (first | exact True.intro | exact rfl | with_reducible refine And.intro ?_ ?_))
    · intro zq bq tq yq hUq
      have q8 := hUq.z 8
      cbv at q8
      replace q8 := q8.eq
      simp only [atI, vem, veq, ne_eq, cmpI, arI, dvI, shI, SV.den] at q8
      have qy950000 := hUq.y 950000 (boxE)
      cbv at qy950000
      replace qy950000 := qy950000.eq
      simp only [atY, convL_self, vem, veq, ne_eq, cmpI, arI, dvI, shI, SV.den] at qy950000
      clear hUq
      try dsimp only [Shp.D, Shp.Ds, Shp.dflt] at *
      try simp only [vem, veq, ne_eq, cmpI, arI, dvI, shI, SV.den, convL_self] at *
      rw [← q8, ← qy950000]
      exact ⟨by omega, by simp only [List.length_nil]; omega, fun r hr => by cases hr⟩
    obtain ⟨r1, r2, r3⟩ := hP2
    cbv
    (repeat' (first | ((with_reducible refine And.intro (fun h => ?_) (fun h => ?_)) <;> (first | with_reducible exact (tf h (by assumption)).elim | with_reducible exact (tf (by assumption) h).elim | cbv)) | ((with_reducible show JoinT (fun s K => vc _ (Code.region _ _ true) s K) _ _ _ _ _); (with_reducible apply JoinT.mg2); (focus (cbv; (repeat' (first | ((with_reducible refine And.intro (fun h => ?_) (fun h => ?_)) <;> (first | with_reducible exact (tf h (by assumption)).elim | with_reducible exact (tf (by assumption) h).elim | cbv)) | ((with_reducible first | refine Cb.mk ?_ | refine Lz.mk ?_ | refine JoinT.left ?_ | refine AllT.mk (fun x hx => ?_)); cbv) | ((with_reducible refine Ob.mk (fun _ => ?_) ?_); rotate_left 1) | (with_reducible first | refine Mg.mk (Exists.intro ?_ (And.intro ?_ ?_)) | rfl | refine Fin.mk ?_ | exact True.intro | refine And.intro ?_ ?_))); (all_goals (try (have du : Unit := (); have dv : Unit := (); first | exact Goes.self (Ex2.mk ⟨dv, du, trivial, trivial, rfl⟩) | exact Goes.self (Ex2.mk ⟨x, du, hx, trivial, rfl⟩) | (rename_i xa hxa; exact Goes.self (Ex2.mk ⟨xa, x, hxa, hx, rfl⟩))))); (all_goals (fail_if_success (with_reducible first | show Goes _ _ _ _ | show (∃ _, unr _ _ _ _ _ _))))))) | ((with_reducible first | refine Cb.mk ?_ | refine Lz.mk ?_ | refine JoinT.left ?_ | refine AllT.mk (fun x hx => ?_)); cbv) | ((with_reducible refine Ob.mk (fun _ => ?_) ?_); rotate_left 1) | (with_reducible first | refine Mg.mk (Exists.intro ?_ (And.intro ?_ ?_)) | rfl | refine Fin.mk ?_ | exact True.intro | refine And.intro ?_ ?_)))
    all_goals first | (with_reducible show (∃ _, unr _ _ _ _ _ _); skip) | (with_reducible show Goes _ _ _ _; skip) | (with_reducible show JoinT _ _ _ _ _ _; skip) | (first | ((try dsimp only [Shp.D, Shp.Ds, Shp.dflt] at *); simp only [vem, veq, ne_eq, cmpI, arI, dvI, shI, SV.den, obLt, elemAt, obApp, partL, obPart, lowD, highD, mxOk, convL_self, zerosB, List.length_replicate, vln] at *; (try dsimp only [Shp.D, Shp.Ds, Shp.dflt, Shp.dflts] at *); done) | ((try dsimp only [Shp.D, Shp.Ds, Shp.dflt] at *); simp only [vem, veq, ne_eq, cmpI, arI, dvI, shI, SV.den, obLt, elemAt, obApp, partL, obPart, lowD, highD, mxOk, convL_self, zerosB, List.length_replicate, vln] at *; (try dsimp only [Shp.D, Shp.Ds, Shp.dflt, Shp.dflts] at *); omega) | (try ((try dsimp only [Shp.D, Shp.Ds, Shp.dflt] at *); simp only [vem, veq, ne_eq, cmpI, arI, dvI, shI, SV.den, obLt, elemAt, obApp, partL, obPart, lowD, highD, mxOk, convL_self, zerosB, List.length_replicate, vln] at *; (try dsimp only [Shp.D, Shp.Ds, Shp.dflt, Shp.dflts] at *))))
    · with_reducible refine hR2 _ ?_ (fun zq bq tq yq hUq => ?_)
      · refine EndOk.mk (by cbv) (by cbv) (by cbv; repeat' (first | exact True.intro | exact rfl | with_reducible refine And.intro ?_ ?_)) (by cbv; repeat' (first | exact True.intro | exact rfl | with_reducible refine And.intro ?_ ?_)) (by cbv; repeat' (first | exact True.intro | exact rfl | with_reducible refine And.intro ?_ ?_))
      have q8 := hUq.z 8
      cbv at q8
      replace q8 := q8.eq
      simp only [atI, vem, veq, ne_eq, cmpI, arI, dvI, shI, SV.den] at q8
      have qy950000 := hUq.y 950000 (boxE)
      cbv at qy950000
      replace qy950000 := qy950000.eq
      simp only [atY, convL_self, vem, veq, ne_eq, cmpI, arI, dvI, shI, SV.den] at qy950000
      clear hUq hR2
      try dsimp only [Shp.D, Shp.Ds, Shp.dflt] at *
      try simp only [vem, veq, ne_eq, cmpI, arI, dvI, shI, SV.den, elemAt, convL_self] at *
      try dsimp only [Shp.D, Shp.Ds, Shp.dflt, Shp.dflts] at *
      rw [← qy950000]
      simp only [List.length_append, List.length_cons, List.length_nil]
      refine ⟨⟨by omega, by omega, fun b hb => ?_⟩, by omega⟩
      rcases List.mem_append.1 hb with hb | hb
      · exact r3 b hb
      · rw [List.mem_singleton] at hb
        rw [hb]
        exact (‹BoxG _ ∧ _›).1
    · with_reducible refine hR2 _ ?_ (fun zq bq tq yq hUq => ?_)
      · refine EndOk.mk (by cbv) (by cbv) (by cbv; repeat' (first | exact True.intro | exact rfl | with_reducible refine And.intro ?_ ?_)) (by cbv; repeat' (first | exact True.intro | exact rfl | with_reducible refine And.intro ?_ ?_)) (by cbv; repeat' (first | exact True.intro | exact rfl | with_reducible refine And.intro ?_ ?_))
      have q8 := hUq.z 8
      cbv at q8
      replace q8 := q8.eq
      simp only [atI, vem, veq, ne_eq, cmpI, arI, dvI, shI, SV.den] at q8
      have qy950000 := hUq.y 950000 (boxE)
      cbv at qy950000
      replace qy950000 := qy950000.eq
      simp only [atY, convL_self, vem, veq, ne_eq, cmpI, arI, dvI, shI, SV.den] at qy950000
      clear hUq hR2
      try dsimp only [Shp.D, Shp.Ds, Shp.dflt] at *
      try simp only [vem, veq, ne_eq, cmpI, arI, dvI, shI, SV.den, elemAt, convL_self] at *
      try dsimp only [Shp.D, Shp.Ds, Shp.dflt, Shp.dflts] at *
      rw [← qy950000]
      simp only [List.length_append, List.length_cons, List.length_nil]
      refine ⟨⟨by omega, by omega, fun b hb => ?_⟩, by omega⟩
      rcases List.mem_append.1 hb with hb | hb
      · exact r3 b hb
      · rw [List.mem_singleton] at hb
        rw [hb]
        exact (‹BoxG _ ∧ _›).1
    · with_reducible refine hR2 _ ?_ (fun zq bq tq yq hUq => ?_)
      · refine EndOk.mk (by cbv) (by cbv) (by cbv; repeat' (first | exact True.intro | exact rfl | with_reducible refine And.intro ?_ ?_)) (by cbv; repeat' (first | exact True.intro | exact rfl | with_reducible refine And.intro ?_ ?_)) (by cbv; repeat' (first | exact True.intro | exact rfl | with_reducible refine And.intro ?_ ?_))
      have q8 := hUq.z 8
      cbv at q8
      replace q8 := q8.eq
      simp only [atI, vem, veq, ne_eq, cmpI, arI, dvI, shI, SV.den] at q8
      have qy950000 := hUq.y 950000 (boxE)
      cbv at qy950000
      replace qy950000 := qy950000.eq
      simp only [atY, convL_self, vem, veq, ne_eq, cmpI, arI, dvI, shI, SV.den] at qy950000
      clear hUq hR2
      try dsimp only [Shp.D, Shp.Ds, Shp.dflt] at *
      try simp only [vem, veq, ne_eq, cmpI, arI, dvI, shI, SV.den, elemAt, convL_self] at *
      try dsimp only [Shp.D, Shp.Ds, Shp.dflt, Shp.dflts] at *
      rw [← qy950000]
      simp only [List.length_append, List.length_cons, List.length_nil]
      refine ⟨⟨by omega, by omega, fun b hb => ?_⟩, by omega⟩
      rcases List.mem_append.1 hb with hb | hb
      · exact r3 b hb
      · rw [List.mem_singleton] at hb
        rw [hb]
        exact (‹BoxG _ ∧ _›).1
    · with_reducible refine hR1 _ ?_ (fun zq bq tq yq hUq => ?_)
      · refine EndOk.mk (by cbv) (by cbv) (by cbv; repeat' (first | exact True.intro | exact rfl | with_reducible refine And.intro ?_ ?_)) (by cbv; repeat' (first | exact True.intro | exact rfl | with_reducible refine And.intro ?_ ?_)) (by cbv; repeat' (first | exact True.intro | exact rfl | with_reducible refine And.intro ?_ ?_))
      have q6 := hUq.z 6
      cbv at q6
      replace q6 := q6.eq
      simp only [atI, vem, veq, ne_eq, cmpI, arI, dvI, shI, SV.den] at q6
      have qy900000 := hUq.y 900000 (ruleE)
      cbv at qy900000
      replace qy900000 := qy900000.eq
      simp only [atY, convL_self, vem, veq, ne_eq, cmpI, arI, dvI, shI, SV.den] at qy900000
      clear hUq hR1
      try dsimp only [Shp.D, Shp.Ds, Shp.dflt] at *
      try simp only [vem, veq, ne_eq, cmpI, arI, dvI, shI, SV.den, elemAt, convL_self] at *
      try dsimp only [Shp.D, Shp.Ds, Shp.dflt, Shp.dflts] at *
      rw [← qy900000]
      simp only [List.length_append, List.length_cons, List.length_nil]
      refine ⟨⟨by omega, by omega, fun r hr => ?_⟩, by omega⟩
      rcases List.mem_append.1 hr with hr | hr
      · exact p3 r hr
      · rw [List.mem_singleton] at hr
        rw [hr]
        exact ⟨le2_of r2 r1, r3⟩
/-! Select. -/
abbrev boxD : BoxT := ((0, 0, 0, ()), (0, 0, 0, ()), (0, 0, 0, ()), (0, 0, 0, ()), 0, 0, (0, 0, ()), (0, 0, ()), ())
abbrev ruleD : RuleT := (0, ByteArray.empty, [], ())
def boxesF (l r : List SelT) : List BoxT → Int → Int × List SelT × List SelT × Int
  | [], _ => (0, [], [], 17)
  | b :: bs, i => if (narrowF l r b).2.2 = 0 then (i, (narrowF l r b).1, (narrowF l r b).2.1, 0) else boxesF l r bs (i + 1)
theorem boxesF_drop (l r : List SelT) (bs : List BoxT) (k : Nat) (h : k < bs.length) : boxesF l r (bs.drop k) k = if (narrowF l r (bs.getD k boxD)).2.2 = 0 then ((k : Int), (narrowF l r (bs.getD k boxD)).1, (narrowF l r (bs.getD k boxD)).2.1, 0) else boxesF l r (bs.drop (k + 1)) ((k + 1 : Nat) : Int) := by
  rw [List.drop_eq_getElem_cons h, boxesF, List.getD_eq_getElem?_getD, List.getElem?_eq_getElem h]
  rfl
def selectF (l : List RuleT) (k : Int) (a b : List SelT) : Int × List SelT × List SelT × Int :=
  if k < 0 ∨ (l.length : Int) ≤ k ∨ (l.getD k.toNat ruleD).1 ≠ 2 then (0, [], [], 8) else boxesF a b (l.getD k.toNat ruleD).2.2.1 0
theorem sl_no {l : List RuleT} {k : Int} {a b : List SelT} (h : k < 0 ∨ (l.length : Int) ≤ k ∨ (l.getD k.toNat ruleD).1 ≠ 2) : (0, [], [], 8) = selectF l k a b := by unfold selectF; rw [if_pos h]
theorem sl_go {l : List RuleT} {k : Int} {a b : List SelT} (h : ¬ (k < 0 ∨ (l.length : Int) ≤ k ∨ (l.getD k.toNat ruleD).1 ≠ 2)) : selectF l k a b = boxesF a b (l.getD k.toNat ruleD).2.2.1 0 := by unfold selectF; rw [if_neg h]
theorem sl_hit {a b c d : List SelT} {bs : List BoxT} {i e : Int} {R : Int × List SelT × List SelT × Int} {P : Prop} (p3 : boxesF a b (bs.drop i.toNat) i = R) (h0 : 0 ≤ i) (h1 : i < (bs.length : Int)) (hx : (c, d, e) = narrowF a b (bs.getD i.toNat boxD) ∧ P) (he : e = 0) : (i, c, d, 0) = R := by
  have h := boxesF_drop a b bs i.toNat (by omega)
  rw [show ((i.toNat : Nat) : Int) = i by omega, p3, ← hx.1, if_pos he] at h
  exact h.symm
theorem sl_next {a b c d : List SelT} {bs : List BoxT} {i j e : Int} {R : Int × List SelT × List SelT × Int} {P : Prop} (p3 : boxesF a b (bs.drop i.toNat) i = R) (h0 : 0 ≤ i) (h1 : i < (bs.length : Int)) (hx : (c, d, e) = narrowF a b (bs.getD i.toNat boxD) ∧ P) (he : ¬ e = 0) (hj : j = i + 1) : boxesF a b (bs.drop j.toNat) j = R := by
  have h := boxesF_drop a b bs i.toNat (by omega)
  rw [show ((i.toNat : Nat) : Int) = i by omega, p3, ← hx.1, if_neg he] at h
  rw [h, hj, show (i + 1).toNat = i.toNat + 1 by omega]
  congr 1
  omega
theorem sl_end {a b : List SelT} {bs : List BoxT} {i : Int} {R : Int × List SelT × List SelT × Int} (p3 : boxesF a b (bs.drop i.toNat) i = R) (h1 : ¬ i < (bs.length : Int)) : (0, [], [], 17) = R := by
  rw [← p3, List.drop_eq_nil_of_le (by omega), boxesF]
theorem RulG.get {l : List RuleT} (h : RulG l) {k i : Int} (k0 : 0 ≤ k) (k1 : k < (l.length : Int)) (i0 : 0 ≤ i) (i1 : i < ((l.getD k.toNat ruleD).2.2.1.length : Int)) : BoxG ((l.getD k.toNat ruleD).2.2.1.getD i.toNat boxD) := by
  have hk : k.toNat < l.length := by omega
  rw [List.getD_eq_getElem?_getD (l := l), List.getElem?_eq_getElem hk] at i1 ⊢
  rw [List.getD_eq_getElem?_getD, List.getElem?_eq_getElem (by simpa using (show i.toNat < l[k.toNat].2.2.1.length by simp only [Option.getD_some] at i1; omega))]
  exact h.bx _ (List.getElem_mem hk) _ (List.getElem_mem _)
theorem RulG.nbk {l : List RuleT} (h : RulG l) {k : Int} (k0 : 0 ≤ k) (k1 : k < (l.length : Int)) : (l.getD k.toNat ruleD).2.2.1.length ≤ 2 := by
  have hk : k.toNat < l.length := by omega
  rw [List.getD_eq_getElem?_getD, List.getElem?_eq_getElem hk]
  exact h.nb _ (List.getElem_mem hk)
theorem sl_rng {i j : Int} {n : Nat} (h0 : 0 ≤ i) (h1 : i < (n : Int)) (hj : (i + 1 + 9223372036854775808) % 18446744073709551616 - 9223372036854775808 = j) (hn : n ≤ 2) : 0 ≤ j ∧ j ≤ (n : Int) ∧ j = i + 1 ∧ ((n : Int) - j).toNat < ((n : Int) - i).toNat := by omega
abbrev slAs : List Shp := [.sl ruleE, .int .i64, .sl selE, .sl selE]
abbrev slPre : Shp.Ds slAs → Prop := fun x => RulG x.1 ∧ x.2.2.1.length ≤ 1000 ∧ x.2.2.2.1.length ≤ 1000 ∧ OkL x.2.2.1 ∧ OkL x.2.2.2.1
abbrev slSp : Spec := fnSpec slAs [.int .i64, .sl selE, .sl selE, .int .i64] [30, 30] slPre fun x y => (y.1, y.2.1, y.2.2.1, y.2.2.2.1) = selectF x.1 x.2.1 x.2.2.1 x.2.2.2.1
def nslC_t : SpecT := lf0 46 (nrwSp)
def nslC : Cx := ⟨tt, qt, bt, st, nslC_t, 0, 1000000000000000, fun _ => none, false⟩
theorem nslC_si {E : Env} (h : E.ok) : SpecsOk Try.prog E nslC_t (fun _ => none) := ⟨(lf0_ok (nrw_sp h)), noI_ok _ _⟩
theorem nslC_cx (E : Env) (h : E.ok) (h1 : E.lo = 0) (h2 : E.hi = 1000000000000000) : Cx.ok nslC Try.prog E := ⟨tt_ok, qt_ok, bt_ok, nslC_si h, h, h1, h2, mixed_ok⟩
theorem nslC_from (lo hi : Nat) (E : Env) (h : E.ok) (h1 : E.lo = lo) (h2 : E.hi = hi) : Cx.ok (Cx.from nslC lo hi) Try.prog E := ⟨tt_ok, qt_ok, bt_ok, nslC_si h, h, h1, h2, mixed_ok⟩
theorem nsl_fn : hasFn Try.prog 51 := ⟨_, Try.func51, by rfl, by rfl⟩
theorem nsl_sp {E : Env} (hE : E.ok) : SpecOk Try.prog E 51 slSp := by
  refine spec_of_vc (C := nslC) nsl_fn Try.func51 (by kernel_rfl) nslC_cx (fun x hl hx => ?_) hE
  obtain ⟨l, k, la, lb, ⟨⟩⟩ := x
  obtain ⟨g1, g2, g3, g4, g5⟩ := hx
  have g1 : RulG l := g1
  have g2 : la.length ≤ 1000 := g2
  have g3 : lb.length ≤ 1000 := g3
  cbv
  (repeat' (first | ((with_reducible refine And.intro (fun h => ?_) (fun h => ?_)) <;> (first | with_reducible exact (tf h (by assumption)).elim | with_reducible exact (tf (by assumption) h).elim | cbv)) | ((with_reducible show JoinT (fun s K => vc _ (Code.region _ _ true) s K) _ _ _ _ _); (with_reducible apply JoinT.mg2); (focus (cbv; (repeat' (first | ((with_reducible refine And.intro (fun h => ?_) (fun h => ?_)) <;> (first | with_reducible exact (tf h (by assumption)).elim | with_reducible exact (tf (by assumption) h).elim | cbv)) | ((with_reducible first | refine Cb.mk ?_ | refine Lz.mk ?_ | refine JoinT.left ?_ | refine AllT.mk (fun x hx => ?_)); cbv) | ((with_reducible refine Ob.mk (fun _ => ?_) ?_); rotate_left 1) | (with_reducible first | refine Mg.mk (Exists.intro ?_ (And.intro ?_ ?_)) | rfl | refine Fin.mk ?_ | exact True.intro | refine And.intro ?_ ?_))); (all_goals (try (have du : Unit := (); have dv : Unit := (); first | exact Goes.self (Ex2.mk ⟨dv, du, trivial, trivial, rfl⟩) | exact Goes.self (Ex2.mk ⟨x, du, hx, trivial, rfl⟩) | (rename_i xa hxa; exact Goes.self (Ex2.mk ⟨xa, x, hxa, hx, rfl⟩))))); (all_goals (fail_if_success (with_reducible first | show Goes _ _ _ _ | show (∃ _, unr _ _ _ _ _ _))))))) | ((with_reducible first | refine Cb.mk ?_ | refine Lz.mk ?_ | refine JoinT.left ?_ | refine AllT.mk (fun x hx => ?_)); cbv) | ((with_reducible refine Ob.mk (fun _ => ?_) ?_); rotate_left 1) | (with_reducible first | refine Mg.mk (Exists.intro ?_ (And.intro ?_ ?_)) | rfl | refine Fin.mk ?_ | exact True.intro | refine And.intro ?_ ?_)))
  all_goals first | (with_reducible show (∃ _, unr _ _ _ _ _ _); skip) | (with_reducible show Goes _ _ _ _; skip) | (with_reducible show JoinT _ _ _ _ _ _; skip) | (first | ((try dsimp only [Shp.D, Shp.Ds, Shp.dflt] at *); simp only [vem, veq, ne_eq, cmpI, arI, dvI, shI, SV.den, obLt, elemAt, obApp, partL, obPart, lowD, highD, mxOk, convL_self, zerosB, List.length_replicate, vln] at *; (try dsimp only [Shp.D, Shp.Ds, Shp.dflt, Shp.dflts] at *); done) | ((try dsimp only [Shp.D, Shp.Ds, Shp.dflt] at *); simp only [vem, veq, ne_eq, cmpI, arI, dvI, shI, SV.den, obLt, elemAt, obApp, partL, obPart, lowD, highD, mxOk, convL_self, zerosB, List.length_replicate, vln] at *; (try dsimp only [Shp.D, Shp.Ds, Shp.dflt, Shp.dflts] at *); omega) | ((try dsimp only [Shp.D, Shp.Ds, Shp.dflt] at *); simp only [vem, veq, ne_eq, cmpI, arI, dvI, shI, SV.den, obLt, elemAt, obApp, partL, obPart, lowD, highD, mxOk, convL_self, zerosB, List.length_replicate, vln] at *; (try dsimp only [Shp.D, Shp.Ds, Shp.dflt, Shp.dflts] at *); exact sl_no (by omega)) | ((try dsimp only [Shp.D, Shp.Ds, Shp.dflt] at *); simp only [vem, veq, ne_eq, cmpI, arI, dvI, shI, SV.den, obLt, elemAt, obApp, partL, obPart, lowD, highD, mxOk, convL_self, zerosB, List.length_replicate, vln] at *; (try dsimp only [Shp.D, Shp.Ds, Shp.dflt, Shp.dflts] at *); exact sl_no (.inr (.inr h))))
  have hg : ¬ (k < 0 ∨ (l.length : Int) ≤ k ∨ (l.getD k.toNat ruleD).1 ≠ 2) := by
    (try dsimp only [Shp.D, Shp.Ds, Shp.dflt] at *); simp only [vem, veq, ne_eq, cmpI, arI, dvI, shI, SV.den, obLt, elemAt, obApp, partL, obPart, lowD, highD, mxOk, convL_self, zerosB, List.length_replicate, vln] at *; (try dsimp only [Shp.D, Shp.Ds, Shp.dflt, Shp.dflts] at *)
    exact fun h1 => h1.elim (by omega) fun h2 => h2.elim (by omega) fun h3 => h3 h
  have k0 : 0 ≤ k := by omega
  have k1 : k < (l.length : Int) := by omega
  with_reducible refine loop_hv [] (9 :: 10 :: 11 :: 12 :: 13 :: rangeN 37 18) [] [] (fun z b t y => 0 ≤ z 36 ∧ z 36 ≤ ((l.getD k.toNat ruleD).2.2.1.length : Int) ∧ boxesF la lb ((l.getD k.toNat ruleD).2.2.1.drop (z 36).toNat) (z 36) = selectF l k la lb) (fun z b t y => (((l.getD k.toNat ruleD).2.2.1.length : Int) - z 36).toNat) (by cbv) (by cbv) ?_ ?_ (fun z1 b1 t1 u1 y1 R1 hP1 hR1 => ?_)
  · refine EndOk.mk (by cbv) (by cbv) (by cbv; repeat' (first | exact True.intro | exact rfl | with_reducible refine And.intro ?_ ?_)) (by cbv; repeat' (first | exact True.intro | exact rfl | with_reducible refine And.intro ?_ ?_)) (by cbv; repeat' (first | exact True.intro | exact rfl | with_reducible refine And.intro ?_ ?_))
  · intro zq bq tq yq hUq
    have q36 := hUq.z 36
    cbv at q36
    replace q36 := q36.eq
    simp only [atI, vem, veq, ne_eq, cmpI, arI, dvI, shI, SV.den] at q36
    clear hUq
    try dsimp only [Shp.D, Shp.Ds, Shp.dflt] at *
    try simp only [vem, veq, ne_eq, cmpI, arI, dvI, shI, SV.den, convL_self] at *
    rw [← q36]
    exact ⟨by omega, by omega, (sl_go hg).symm⟩
  obtain ⟨p1, p2, p3⟩ := hP1
  cbv
  (repeat' (first | ((with_reducible refine And.intro (fun h => ?_) (fun h => ?_)) <;> (first | with_reducible exact (tf h (by assumption)).elim | with_reducible exact (tf (by assumption) h).elim | cbv)) | ((with_reducible show JoinT (fun s K => vc _ (Code.region _ _ true) s K) _ _ _ _ _); (with_reducible apply JoinT.mg2); (focus (cbv; (repeat' (first | ((with_reducible refine And.intro (fun h => ?_) (fun h => ?_)) <;> (first | with_reducible exact (tf h (by assumption)).elim | with_reducible exact (tf (by assumption) h).elim | cbv)) | ((with_reducible first | refine Cb.mk ?_ | refine Lz.mk ?_ | refine JoinT.left ?_ | refine AllT.mk (fun x hx => ?_)); cbv) | ((with_reducible refine Ob.mk (fun _ => ?_) ?_); rotate_left 1) | (with_reducible first | refine Mg.mk (Exists.intro ?_ (And.intro ?_ ?_)) | rfl | refine Fin.mk ?_ | exact True.intro | refine And.intro ?_ ?_))); (all_goals (try (have du : Unit := (); have dv : Unit := (); first | exact Goes.self (Ex2.mk ⟨dv, du, trivial, trivial, rfl⟩) | exact Goes.self (Ex2.mk ⟨x, du, hx, trivial, rfl⟩) | (rename_i xa hxa; exact Goes.self (Ex2.mk ⟨xa, x, hxa, hx, rfl⟩))))); (all_goals (fail_if_success (with_reducible first | show Goes _ _ _ _ | show (∃ _, unr _ _ _ _ _ _))))))) | ((with_reducible first | refine Cb.mk ?_ | refine Lz.mk ?_ | refine JoinT.left ?_ | refine AllT.mk (fun x hx => ?_)); cbv) | ((with_reducible refine Ob.mk (fun _ => ?_) ?_); rotate_left 1) | (with_reducible first | refine Mg.mk (Exists.intro ?_ (And.intro ?_ ?_)) | rfl | refine Fin.mk ?_ | exact True.intro | refine And.intro ?_ ?_)))
  all_goals first | (with_reducible show (∃ _, unr _ _ _ _ _ _); skip) | (with_reducible show Goes _ _ _ _; skip) | (with_reducible show JoinT _ _ _ _ _ _; skip) | (first | ((try dsimp only [Shp.D, Shp.Ds, Shp.dflt] at *); simp only [vem, veq, ne_eq, cmpI, arI, dvI, shI, SV.den, obLt, elemAt, obApp, partL, obPart, lowD, highD, mxOk, convL_self, zerosB, List.length_replicate, vln] at *; (try dsimp only [Shp.D, Shp.Ds, Shp.dflt, Shp.dflts] at *); done) | ((try dsimp only [Shp.D, Shp.Ds, Shp.dflt] at *); simp only [vem, veq, ne_eq, cmpI, arI, dvI, shI, SV.den, obLt, elemAt, obApp, partL, obPart, lowD, highD, mxOk, convL_self, zerosB, List.length_replicate, vln] at *; (try dsimp only [Shp.D, Shp.Ds, Shp.dflt, Shp.dflts] at *); omega) | ((try dsimp only [Shp.D, Shp.Ds, Shp.dflt] at *); simp only [vem, veq, ne_eq, cmpI, arI, dvI, shI, SV.den, obLt, elemAt, obApp, partL, obPart, lowD, highD, mxOk, convL_self, zerosB, List.length_replicate, vln] at *; (try dsimp only [Shp.D, Shp.Ds, Shp.dflt, Shp.dflts] at *); exact sl_hit p3 p1 (by assumption) hx h) | ((try dsimp only [Shp.D, Shp.Ds, Shp.dflt] at *); simp only [vem, veq, ne_eq, cmpI, arI, dvI, shI, SV.den, obLt, elemAt, obApp, partL, obPart, lowD, highD, mxOk, convL_self, zerosB, List.length_replicate, vln] at *; (try dsimp only [Shp.D, Shp.Ds, Shp.dflt, Shp.dflts] at *); exact sl_end p3 h) | ((try dsimp only [Shp.D, Shp.Ds, Shp.dflt] at *); simp only [vem, veq, ne_eq, cmpI, arI, dvI, shI, SV.den, obLt, elemAt, obApp, partL, obPart, lowD, highD, mxOk, convL_self, zerosB, List.length_replicate, vln] at *; (try dsimp only [Shp.D, Shp.Ds, Shp.dflt, Shp.dflts] at *); have hb := (g1.get k0 k1 p1 (by assumption)).lo; exact hb) | ((try dsimp only [Shp.D, Shp.Ds, Shp.dflt] at *); simp only [vem, veq, ne_eq, cmpI, arI, dvI, shI, SV.den, obLt, elemAt, obApp, partL, obPart, lowD, highD, mxOk, convL_self, zerosB, List.length_replicate, vln] at *; (try dsimp only [Shp.D, Shp.Ds, Shp.dflt, Shp.dflts] at *); have hb := (g1.get k0 k1 p1 (by assumption)).lo'; exact Int.le_trans hb (by decide)) | ((try dsimp only [Shp.D, Shp.Ds, Shp.dflt] at *); simp only [vem, veq, ne_eq, cmpI, arI, dvI, shI, SV.den, obLt, elemAt, obApp, partL, obPart, lowD, highD, mxOk, convL_self, zerosB, List.length_replicate, vln] at *; (try dsimp only [Shp.D, Shp.Ds, Shp.dflt, Shp.dflts] at *); have hb := (g1.get k0 k1 p1 (by assumption)).hi'; exact Int.le_trans hb (by decide)) | (try ((try dsimp only [Shp.D, Shp.Ds, Shp.dflt] at *); simp only [vem, veq, ne_eq, cmpI, arI, dvI, shI, SV.den, obLt, elemAt, obApp, partL, obPart, lowD, highD, mxOk, convL_self, zerosB, List.length_replicate, vln] at *; (try dsimp only [Shp.D, Shp.Ds, Shp.dflt, Shp.dflts] at *))))
  all_goals first
    | (with_reducible show Goes _ _ _ _; skip)
    | trace_state
  · with_reducible refine hR1 _ ?_ (fun zq bq tq yq hUq => ?_)
    · refine EndOk.mk (by cbv) (by cbv) (by cbv; repeat' (first | exact True.intro | exact rfl | with_reducible refine And.intro ?_ ?_)) (by cbv; repeat' (first | exact True.intro | exact rfl | with_reducible refine And.intro ?_ ?_)) (by cbv; repeat' (first | exact True.intro | exact rfl | with_reducible refine And.intro ?_ ?_))
    have q36 := hUq.z 36
    cbv at q36
    replace q36 := q36.eq
    simp only [atI, vem, veq, ne_eq, cmpI, arI, dvI, shI, SV.den] at q36
    clear hUq hR1
    try dsimp only [Shp.D, Shp.Ds, Shp.dflt] at *
    try simp only [vem, veq, ne_eq, cmpI, arI, dvI, shI, SV.den, elemAt, convL_self] at *
    try dsimp only [Shp.D, Shp.Ds, Shp.dflt, Shp.dflts] at *
    obtain ⟨c1, c2, c3, c4⟩ := sl_rng p1 ‹z1 36 < _› q36 (g1.nbk k0 k1)
    exact ⟨⟨c1, c2, sl_next p3 p1 ‹z1 36 < _› hx h c3⟩, c4⟩
def rslC_t : SpecT := lf0 49 (rnwSp)
def rslC : Cx := ⟨tt, qt, bt, st, rslC_t, 0, 1000000000000000, fun _ => none, false⟩
theorem rslC_si {E : Env} (h : E.ok) : SpecsOk Try.prog E rslC_t (fun _ => none) := ⟨(lf0_ok (rnw_sp h)), noI_ok _ _⟩
theorem rslC_cx (E : Env) (h : E.ok) (h1 : E.lo = 0) (h2 : E.hi = 1000000000000000) : Cx.ok rslC Try.prog E := ⟨tt_ok, qt_ok, bt_ok, rslC_si h, h, h1, h2, mixed_ok⟩
theorem rslC_from (lo hi : Nat) (E : Env) (h : E.ok) (h1 : E.lo = lo) (h2 : E.hi = hi) : Cx.ok (Cx.from rslC lo hi) Try.prog E := ⟨tt_ok, qt_ok, bt_ok, rslC_si h, h, h1, h2, mixed_ok⟩
theorem rsl_fn : hasFn Try.prog 52 := ⟨_, Try.func52, by rfl, by rfl⟩
theorem rsl_sp {E : Env} (hE : E.ok) : SpecOk Try.prog E 52 slSp := by
  refine spec_of_vc (C := rslC) rsl_fn Try.func52 (by kernel_rfl) rslC_cx (fun x hl hx => ?_) hE
  obtain ⟨l, k, la, lb, ⟨⟩⟩ := x
  obtain ⟨g1, g2, g3, g4, g5⟩ := hx
  have g1 : RulG l := g1
  have g2 : la.length ≤ 1000 := g2
  have g3 : lb.length ≤ 1000 := g3
  cbv
  (repeat' (first | ((with_reducible refine And.intro (fun h => ?_) (fun h => ?_)) <;> (first | with_reducible exact (tf h (by assumption)).elim | with_reducible exact (tf (by assumption) h).elim | cbv)) | ((with_reducible show JoinT (fun s K => vc _ (Code.region _ _ true) s K) _ _ _ _ _); (with_reducible apply JoinT.mg2); (focus (cbv; (repeat' (first | ((with_reducible refine And.intro (fun h => ?_) (fun h => ?_)) <;> (first | with_reducible exact (tf h (by assumption)).elim | with_reducible exact (tf (by assumption) h).elim | cbv)) | ((with_reducible first | refine Cb.mk ?_ | refine Lz.mk ?_ | refine JoinT.left ?_ | refine AllT.mk (fun x hx => ?_)); cbv) | ((with_reducible refine Ob.mk (fun _ => ?_) ?_); rotate_left 1) | (with_reducible first | refine Mg.mk (Exists.intro ?_ (And.intro ?_ ?_)) | rfl | refine Fin.mk ?_ | exact True.intro | refine And.intro ?_ ?_))); (all_goals (try (have du : Unit := (); have dv : Unit := (); first | exact Goes.self (Ex2.mk ⟨dv, du, trivial, trivial, rfl⟩) | exact Goes.self (Ex2.mk ⟨x, du, hx, trivial, rfl⟩) | (rename_i xa hxa; exact Goes.self (Ex2.mk ⟨xa, x, hxa, hx, rfl⟩))))); (all_goals (fail_if_success (with_reducible first | show Goes _ _ _ _ | show (∃ _, unr _ _ _ _ _ _))))))) | ((with_reducible first | refine Cb.mk ?_ | refine Lz.mk ?_ | refine JoinT.left ?_ | refine AllT.mk (fun x hx => ?_)); cbv) | ((with_reducible refine Ob.mk (fun _ => ?_) ?_); rotate_left 1) | (with_reducible first | refine Mg.mk (Exists.intro ?_ (And.intro ?_ ?_)) | rfl | refine Fin.mk ?_ | exact True.intro | refine And.intro ?_ ?_)))
  all_goals first | (with_reducible show (∃ _, unr _ _ _ _ _ _); skip) | (with_reducible show Goes _ _ _ _; skip) | (with_reducible show JoinT _ _ _ _ _ _; skip) | (first | ((try dsimp only [Shp.D, Shp.Ds, Shp.dflt] at *); simp only [vem, veq, ne_eq, cmpI, arI, dvI, shI, SV.den, obLt, elemAt, obApp, partL, obPart, lowD, highD, mxOk, convL_self, zerosB, List.length_replicate, vln] at *; (try dsimp only [Shp.D, Shp.Ds, Shp.dflt, Shp.dflts] at *); done) | ((try dsimp only [Shp.D, Shp.Ds, Shp.dflt] at *); simp only [vem, veq, ne_eq, cmpI, arI, dvI, shI, SV.den, obLt, elemAt, obApp, partL, obPart, lowD, highD, mxOk, convL_self, zerosB, List.length_replicate, vln] at *; (try dsimp only [Shp.D, Shp.Ds, Shp.dflt, Shp.dflts] at *); omega) | ((try dsimp only [Shp.D, Shp.Ds, Shp.dflt] at *); simp only [vem, veq, ne_eq, cmpI, arI, dvI, shI, SV.den, obLt, elemAt, obApp, partL, obPart, lowD, highD, mxOk, convL_self, zerosB, List.length_replicate, vln] at *; (try dsimp only [Shp.D, Shp.Ds, Shp.dflt, Shp.dflts] at *); exact sl_no (by omega)) | ((try dsimp only [Shp.D, Shp.Ds, Shp.dflt] at *); simp only [vem, veq, ne_eq, cmpI, arI, dvI, shI, SV.den, obLt, elemAt, obApp, partL, obPart, lowD, highD, mxOk, convL_self, zerosB, List.length_replicate, vln] at *; (try dsimp only [Shp.D, Shp.Ds, Shp.dflt, Shp.dflts] at *); exact sl_no (.inr (.inr h))))
  have hg : ¬ (k < 0 ∨ (l.length : Int) ≤ k ∨ (l.getD k.toNat ruleD).1 ≠ 2) := by
    (try dsimp only [Shp.D, Shp.Ds, Shp.dflt] at *); simp only [vem, veq, ne_eq, cmpI, arI, dvI, shI, SV.den, obLt, elemAt, obApp, partL, obPart, lowD, highD, mxOk, convL_self, zerosB, List.length_replicate, vln] at *; (try dsimp only [Shp.D, Shp.Ds, Shp.dflt, Shp.dflts] at *)
    exact fun h1 => h1.elim (by omega) fun h2 => h2.elim (by omega) fun h3 => h3 h
  have k0 : 0 ≤ k := by omega
  have k1 : k < (l.length : Int) := by omega
  with_reducible refine loop_hv [] (13 :: 14 :: 15 :: rangeN 32 30) [] [] (fun z b t y => 0 ≤ z 12 ∧ z 12 ≤ ((l.getD k.toNat ruleD).2.2.1.length : Int) ∧ boxesF la lb ((l.getD k.toNat ruleD).2.2.1.drop (z 12).toNat) (z 12) = selectF l k la lb) (fun z b t y => (((l.getD k.toNat ruleD).2.2.1.length : Int) - z 12).toNat) (by cbv) (by cbv) ?_ ?_ (fun z1 b1 t1 u1 y1 R1 hP1 hR1 => ?_)
  · refine EndOk.mk (by cbv) (by cbv) (by cbv; repeat' (first | exact True.intro | exact rfl | with_reducible refine And.intro ?_ ?_)) (by cbv; repeat' (first | exact True.intro | exact rfl | with_reducible refine And.intro ?_ ?_)) (by cbv; repeat' (first | exact True.intro | exact rfl | with_reducible refine And.intro ?_ ?_))
  · intro zq bq tq yq hUq
    have q12 := hUq.z 12
    cbv at q12
    replace q12 := q12.eq
    simp only [atI, vem, veq, ne_eq, cmpI, arI, dvI, shI, SV.den] at q12
    clear hUq
    try dsimp only [Shp.D, Shp.Ds, Shp.dflt] at *
    try simp only [vem, veq, ne_eq, cmpI, arI, dvI, shI, SV.den, convL_self] at *
    rw [← q12]
    exact ⟨by omega, by omega, (sl_go hg).symm⟩
  obtain ⟨p1, p2, p3⟩ := hP1
  cbv
  (repeat' (first | ((with_reducible refine And.intro (fun h => ?_) (fun h => ?_)) <;> (first | with_reducible exact (tf h (by assumption)).elim | with_reducible exact (tf (by assumption) h).elim | cbv)) | ((with_reducible show JoinT (fun s K => vc _ (Code.region _ _ true) s K) _ _ _ _ _); (with_reducible apply JoinT.mg2); (focus (cbv; (repeat' (first | ((with_reducible refine And.intro (fun h => ?_) (fun h => ?_)) <;> (first | with_reducible exact (tf h (by assumption)).elim | with_reducible exact (tf (by assumption) h).elim | cbv)) | ((with_reducible first | refine Cb.mk ?_ | refine Lz.mk ?_ | refine JoinT.left ?_ | refine AllT.mk (fun x hx => ?_)); cbv) | ((with_reducible refine Ob.mk (fun _ => ?_) ?_); rotate_left 1) | (with_reducible first | refine Mg.mk (Exists.intro ?_ (And.intro ?_ ?_)) | rfl | refine Fin.mk ?_ | exact True.intro | refine And.intro ?_ ?_))); (all_goals (try (have du : Unit := (); have dv : Unit := (); first | exact Goes.self (Ex2.mk ⟨dv, du, trivial, trivial, rfl⟩) | exact Goes.self (Ex2.mk ⟨x, du, hx, trivial, rfl⟩) | (rename_i xa hxa; exact Goes.self (Ex2.mk ⟨xa, x, hxa, hx, rfl⟩))))); (all_goals (fail_if_success (with_reducible first | show Goes _ _ _ _ | show (∃ _, unr _ _ _ _ _ _))))))) | ((with_reducible first | refine Cb.mk ?_ | refine Lz.mk ?_ | refine JoinT.left ?_ | refine AllT.mk (fun x hx => ?_)); cbv) | ((with_reducible refine Ob.mk (fun _ => ?_) ?_); rotate_left 1) | (with_reducible first | refine Mg.mk (Exists.intro ?_ (And.intro ?_ ?_)) | rfl | refine Fin.mk ?_ | exact True.intro | refine And.intro ?_ ?_)))
  all_goals first | (with_reducible show (∃ _, unr _ _ _ _ _ _); skip) | (with_reducible show Goes _ _ _ _; skip) | (with_reducible show JoinT _ _ _ _ _ _; skip) | (first | ((try dsimp only [Shp.D, Shp.Ds, Shp.dflt] at *); simp only [vem, veq, ne_eq, cmpI, arI, dvI, shI, SV.den, obLt, elemAt, obApp, partL, obPart, lowD, highD, mxOk, convL_self, zerosB, List.length_replicate, vln] at *; (try dsimp only [Shp.D, Shp.Ds, Shp.dflt, Shp.dflts] at *); done) | ((try dsimp only [Shp.D, Shp.Ds, Shp.dflt] at *); simp only [vem, veq, ne_eq, cmpI, arI, dvI, shI, SV.den, obLt, elemAt, obApp, partL, obPart, lowD, highD, mxOk, convL_self, zerosB, List.length_replicate, vln] at *; (try dsimp only [Shp.D, Shp.Ds, Shp.dflt, Shp.dflts] at *); omega) | ((try dsimp only [Shp.D, Shp.Ds, Shp.dflt] at *); simp only [vem, veq, ne_eq, cmpI, arI, dvI, shI, SV.den, obLt, elemAt, obApp, partL, obPart, lowD, highD, mxOk, convL_self, zerosB, List.length_replicate, vln] at *; (try dsimp only [Shp.D, Shp.Ds, Shp.dflt, Shp.dflts] at *); exact sl_hit p3 p1 (by assumption) hx h) | ((try dsimp only [Shp.D, Shp.Ds, Shp.dflt] at *); simp only [vem, veq, ne_eq, cmpI, arI, dvI, shI, SV.den, obLt, elemAt, obApp, partL, obPart, lowD, highD, mxOk, convL_self, zerosB, List.length_replicate, vln] at *; (try dsimp only [Shp.D, Shp.Ds, Shp.dflt, Shp.dflts] at *); exact sl_end p3 h) | ((try dsimp only [Shp.D, Shp.Ds, Shp.dflt] at *); simp only [vem, veq, ne_eq, cmpI, arI, dvI, shI, SV.den, obLt, elemAt, obApp, partL, obPart, lowD, highD, mxOk, convL_self, zerosB, List.length_replicate, vln] at *; (try dsimp only [Shp.D, Shp.Ds, Shp.dflt, Shp.dflts] at *); assumption) | ((try dsimp only [Shp.D, Shp.Ds, Shp.dflt] at *); simp only [vem, veq, ne_eq, cmpI, arI, dvI, shI, SV.den, obLt, elemAt, obApp, partL, obPart, lowD, highD, mxOk, convL_self, zerosB, List.length_replicate, vln] at *; (try dsimp only [Shp.D, Shp.Ds, Shp.dflt, Shp.dflts] at *); exact g1.get k0 k1 p1 (by assumption)) | ((try dsimp only [Shp.D, Shp.Ds, Shp.dflt] at *); simp only [vem, veq, ne_eq, cmpI, arI, dvI, shI, SV.den, obLt, elemAt, obApp, partL, obPart, lowD, highD, mxOk, convL_self, zerosB, List.length_replicate, vln] at *; (try dsimp only [Shp.D, Shp.Ds, Shp.dflt, Shp.dflts] at *); have hb := (g1.get k0 k1 p1 (by assumption)).lo'; exact Int.le_trans hb (by decide)) | ((try dsimp only [Shp.D, Shp.Ds, Shp.dflt] at *); simp only [vem, veq, ne_eq, cmpI, arI, dvI, shI, SV.den, obLt, elemAt, obApp, partL, obPart, lowD, highD, mxOk, convL_self, zerosB, List.length_replicate, vln] at *; (try dsimp only [Shp.D, Shp.Ds, Shp.dflt, Shp.dflts] at *); have hb := (g1.get k0 k1 p1 (by assumption)).hi'; exact Int.le_trans hb (by decide)) | (try ((try dsimp only [Shp.D, Shp.Ds, Shp.dflt] at *); simp only [vem, veq, ne_eq, cmpI, arI, dvI, shI, SV.den, obLt, elemAt, obApp, partL, obPart, lowD, highD, mxOk, convL_self, zerosB, List.length_replicate, vln] at *; (try dsimp only [Shp.D, Shp.Ds, Shp.dflt, Shp.dflts] at *))))
  all_goals first
    | (with_reducible show Goes _ _ _ _; skip)
    | trace_state
  · with_reducible refine hR1 _ ?_ (fun zq bq tq yq hUq => ?_)
    · refine EndOk.mk (by cbv) (by cbv) (by cbv; repeat' (first | exact True.intro | exact rfl | with_reducible refine And.intro ?_ ?_)) (by cbv; repeat' (first | exact True.intro | exact rfl | with_reducible refine And.intro ?_ ?_)) (by cbv; repeat' (first | exact True.intro | exact rfl | with_reducible refine And.intro ?_ ?_))
    have q12 := hUq.z 12
    cbv at q12
    replace q12 := q12.eq
    simp only [atI, vem, veq, ne_eq, cmpI, arI, dvI, shI, SV.den] at q12
    clear hUq hR1
    try dsimp only [Shp.D, Shp.Ds, Shp.dflt] at *
    try simp only [vem, veq, ne_eq, cmpI, arI, dvI, shI, SV.den, elemAt, convL_self] at *
    try dsimp only [Shp.D, Shp.Ds, Shp.dflt, Shp.dflts] at *
    obtain ⟨c1, c2, c3, c4⟩ := sl_rng p1 ‹z1 12 < _› q12 (g1.nbk k0 k1)
    exact ⟨⟨c1, c2, sl_next p3 p1 ‹z1 12 < _› hx h c3⟩, c4⟩
end Go.Proofs.Ytiinlanpinanhaa.V
