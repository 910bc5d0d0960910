/- A message is drawn. -/
import Derived.Test.YtbdfijdianaghaaVMh
import Derived.Test.YtbdfijdianaghaaVMf
set_option linter.unusedVariables false
set_option linter.unusedSimpArgs false
namespace Go.Proofs.Ytbdfijdianaghaa.V
open Go.RowKit
set_option maxHeartbeats 8000000
set_option maxRecDepth 100000
structure MsgG (l : List PlT) : Prop where
 few : l.length ≤ 100
 ns : ∀ i : Nat, i < l.length → sealT (tyP l i) = false
abbrev i64E : Shp := .int .i64
structure NsL (l : List Int) : Prop where
 h : ∀ i : Nat, i < l.length → sealT (l.getD i 0) = false
theorem NsL.of {l : List Int} (h : l.all (fun k => !sealT k) = true) : NsL l := by
 refine ⟨fun i hi => ?_⟩
 rw [List.all_eq_true] at h
 have := h _ (List.getElem_mem hi)
 rw [List.getD_eq_getElem?_getD, List.getElem?_eq_getElem hi]
 simpa using this
theorem NsL.app {l : List Int} {k : Int} (h : NsL l) (hk : sealT k = false) : NsL (l ++ [k]) := by
 refine ⟨fun i hi => ?_⟩
 simp only [List.length_append, List.length_cons, List.length_nil] at hi
 rw [List.getD_eq_getElem?_getD]
 rcases (by omega : i < l.length ∨ i = l.length) with e | e
 ·rw [List.getElem?_append_left e]
  have := h.h i e
  rwa [List.getD_eq_getElem?_getD] at this
 ·subst e
  simpa using hk
theorem sel_ns {x : Int} (h0 : 0 ≤ x) (h1 : x < 4) : sealT (selI [41, 43, 37, 42] x) = false := by
 rcases (by omega : x = 0 ∨ x = 1 ∨ x = 2 ∨ x = 3) with h | h | h | h <;> subst h <;> decide
theorem msg_go {l : List PlT} {p : PlT} {z : Int} {L : List Int} (h3 : (l.length : Int) = z) (h0 : 0 ≤ z) (h4 : ∀ i : Nat, i < l.length → sealT (tyP l i) = false) (hn : NsL L) (hz : z < (L.length : Int)) (hp : p.1 = L.getD z.toNat 0) : ∀ i : Nat, i < (l ++ [p]).length → sealT (tyP (l ++ [p]) i) = false := by
 intro i hi
 simp only [List.length_append, List.length_cons, List.length_nil] at hi
 rcases (by omega : i < l.length ∨ i = l.length) with e | e
 ·have := h4 i e
  unfold tyP at *
  rw [List.getD_eq_getElem?_getD, List.getElem?_append_left e, ← List.getD_eq_getElem?_getD]
  exact this
 ·subst e
  unfold tyP
  rw [List.getD_eq_getElem?_getD, List.getElem?_append_right (by omega)]
  simp only [Nat.sub_self, List.getElem?_cons_zero, Option.getD_some, hp]
  exact hn.h _ (by omega)
theorem MsgG.of {l : List PlT} {z : Int} (r2 : z ≤ 8) (r3 : (l.length : Int) = z) (r4 : ∀ i : Nat, i < l.length → sealT (tyP l i) = false) : MsgG l := ⟨by omega, r4⟩
theorem msg_st {l l' : List PlT} {p : PlT} {z z' : Int} {L : List Int} (hp : p.1 = L.getD z.toNat 0) (r1 : 0 ≤ z) (r3 : (l.length : Int) = z) (r4 : ∀ i : Nat, i < l.length → sealT (tyP l i) = false) (q : l ++ [p] = l') (qz : z' = z + 1) (hL : L.length ≤ 8) (hn : NsL L) (hz : z < (L.length : Int)) :
    (0 ≤ z' ∧ z' ≤ 8 ∧ (l'.length : Int) = z' ∧ ∀ i : Nat, i < l'.length → sealT (tyP l' i) = false) ∧ (8 - z').toNat < (8 - z).toNat := by
 subst q
 refine ⟨⟨by omega, by omega, ?_, msg_go r3 r1 r4 hn hz hp⟩, by omega⟩
 simp only [List.length_append, List.length_cons, List.length_nil]
 omega
def dmC_t : SpecT := nd0 14 (lf0 9 (nextS)) (nd0 15 (lf0 14 (hdrS)) (lf0 15 (dplS)))
def dmC : Cx := ⟨tt, qt, bt, st, dmC_t, 0, 1000000000000000, fun _ => none, false, CxE.no, []⟩
theorem dmC_si {E : Env} (h : E.ok) : SpecsOk Try.prog E (CxE.no) dmC_t (fun _ => none) := ⟨(nd0_ok (lf0_ok (.inl (next_sp h))) (nd0_ok (lf0_ok (.inl (dhd_sp h))) (lf0_ok (.inl (dpl_sp h))))), noI_ok _ _ _⟩
theorem dmC_x {E : Env} (h : E.ok) : CxEOk Try.prog E (CxE.no) := CxE.no_ok _ _
theorem dmC_cx (E : Env) (h : E.ok) (h1 : E.lo = 0) (h2 : E.hi = 1000000000000000) : Cx.ok dmC Try.prog E := ⟨tt_ok, qt_ok, bt_ok, dmC_si h, h, h1, h2, mixed_ok, dmC_x h⟩
theorem dmC_from (lo hi : Nat) (E : Env) (h : E.ok) (h1 : E.lo = lo) (h2 : E.hi = hi) : Cx.ok (Cx.from dmC lo hi) Try.prog E := ⟨tt_ok, qt_ok, bt_ok, dmC_si h, h, h1, h2, mixed_ok, dmC_x h⟩
abbrev dmsS : Spec := drSpec 63 [] [msgE] [.own 50] (fun _ => True) (fun _ y => MsgG y.1.2.1)
theorem dms_fn : hasFn Try.prog 7 := ⟨_, Try.func7, by rfl, by rfl⟩
theorem dms_sp {E : Env} (hE : E.ok) : SpecOk Try.prog E 7 dmsS := by
 refine spec_of_vcD (C := dmC) dms_fn Try.func7 (by kernel_rfl) dmC_cx (fun x hl hx => ?_) hE
 obtain ⟨⟩ := x
 cbv
 (repeat' (first | ((with_reducible apply And.intro <;> intro h) <;> (first | with_reducible exact (tf h (by assumption)).elim | with_reducible exact (tf (by assumption) h).elim | cbv)) | ((with_reducible show JoinT (fun s K => vc _ (Code.region _ _ true) s K) _ _ _ _ _ _); (with_reducible apply JoinT.mg2); (focus (cbv; (repeat' (first | ((with_reducible apply And.intro <;> intro h) <;> (first | with_reducible exact (tf h (by assumption)).elim | with_reducible exact (tf (by assumption) h).elim | cbv)) | ((with_reducible first | refine Cb.mk ?_ | refine Lz.mk ?_ | refine JoinT.left ?_ | (apply AllT.mk; intro x hx)); cbv) | ((with_reducible refine Ob.mk (fun _ => ?_) ?_); rotate_left 1) | (with_reducible first | refine Mg.mk (Exists.intro ?_ (And.intro ?_ ?_)) | rfl | refine Fin.mk ?_ | exact True.intro | refine And.intro ?_ ?_))); (all_goals (try (have du : Unit := (); have dv : Unit := (); first | exact Goes.self (Ex2.mk ⟨dv, du, trivial, trivial, rfl⟩) | exact Goes.self (Ex2.mk ⟨x, du, hx, trivial, rfl⟩) | (rename_i xa hxa; exact Goes.self (Ex2.mk ⟨xa, x, hxa, hx, rfl⟩))))); (all_goals (fail_if_success (with_reducible first | show Goes _ _ _ _ | show (∃ _, unr _ _ _ _ _ _))))))) | ((with_reducible first | refine Cb.mk ?_ | refine Lz.mk ?_ | refine JoinT.left ?_ | (apply AllT.mk; intro x hx)); cbv) | ((with_reducible refine Ob.mk (fun _ => ?_) ?_); rotate_left 1) | (with_reducible first | refine Mg.mk (Exists.intro ?_ (And.intro ?_ ?_)) | rfl | refine Fin.mk ?_ | exact True.intro | refine And.intro ?_ ?_)))
 all_goals first | (with_reducible show (∃ _, unr _ _ _ _ _ _); skip) | (with_reducible show UnrI _ _ _ _ _; skip) | (with_reducible show Goes _ _ _ _; skip) | (with_reducible show JoinT _ _ _ _ _ _ _; skip) | (first | ((try dsimp only [Shp.D, Shp.Ds, Shp.dflt] at *); simp only [vem, veq, ne_eq, cmpI, arI, dvI, shI, SV.den, obLt, elemAt, obApp, partL, obPart, lowD, highD, mxOk, convL_self, zerosB, List.length_replicate, vln] at *; (try dsimp only [Shp.D, Shp.Ds, Shp.dflt, Shp.dflts] at *); done) | ((try dsimp only [Shp.D, Shp.Ds, Shp.dflt] at *); simp only [vem, veq, ne_eq, cmpI, arI, dvI, shI, SV.den, obLt, elemAt, obApp, partL, obPart, lowD, highD, mxOk, convL_self, zerosB, List.length_replicate, vln] at *; (try dsimp only [Shp.D, Shp.Ds, Shp.dflt, Shp.dflts] at *); omega) | (try ((try dsimp only [Shp.D, Shp.Ds, Shp.dflt] at *); simp only [vem, veq, ne_eq, cmpI, arI, dvI, shI, SV.den, obLt, elemAt, obApp, partL, obPart, lowD, highD, mxOk, convL_self, zerosB, List.length_replicate, vln] at *; (try dsimp only [Shp.D, Shp.Ds, Shp.dflt, Shp.dflts] at *))))
 all_goals
  first
   | skip
     with_reducible refine loop_hv [(4, 900002, 3, .int .i64)] (15 :: 18 :: 24 :: 25 :: 28 :: 33 :: rangeN 41 30) [] [900002] (fun z b t y => 0 ≤ z 5 ∧ z 5 ≤ 2 ∧ ((y 900002 (.int .i64)).length : Int) ≤ 8 - z 5 ∧ NsL (y 900002 (.int .i64))) (fun z b t y => (z 5).toNat) ?_ ?_ ?_ ?_ (fun z1 b1 t1 u1 y1 R1 hP1 hR1 => ?_)
     focus (cbv; done)
     focus (cbv; done)
     focus refine EndOk.mk (by cbv) (by cbv) (by cbv; repeat' (first | exact True.intro | exact rfl | with_reducible refine And.intro ?_ ?_)) (by cbv; repeat' (first | exact True.intro | exact rfl | with_reducible refine And.intro ?_ ?_)) (by cbv; repeat' (first | exact True.intro | exact rfl | with_reducible refine And.intro ?_ ?_))
     focus
      intro zq bq tq yq hUq
      have q5 := hUq.z 5
      cbv at q5
      replace q5 := q5.eq
      simp only [atI, vem, veq, ne_eq, cmpI, arI, dvI, shI, SV.den] at q5
      have qy900002 := hUq.y 900002 (i64E)
      cbv at qy900002
      replace qy900002 := qy900002.eq
      simp only [atY, convL_self, vem, veq, ne_eq, cmpI, arI, dvI, shI, SV.den] at qy900002
      clear hUq
      try dsimp only [Shp.D, Shp.Ds, Shp.dflt] at *
      try simp only [vem, veq, ne_eq, cmpI, arI, dvI, shI, SV.den, convL_self] at *
      rw [← q5, ← qy900002]
      exact ⟨by omega, by omega, by first | (simp only [List.length_cons, List.length_nil]; omega) | (simp; omega), NsL.of (by rfl)⟩
     obtain ⟨p1, p2, p3, p4⟩ := hP1
     cbv
     (repeat' (first | ((with_reducible apply And.intro <;> intro h) <;> (first | with_reducible exact (tf h (by assumption)).elim | with_reducible exact (tf (by assumption) h).elim | cbv)) | ((with_reducible show JoinT (fun s K => vc _ (Code.region _ _ true) s K) _ _ _ _ _ _); (with_reducible apply JoinT.mg2); (focus (cbv; (repeat' (first | ((with_reducible apply And.intro <;> intro h) <;> (first | with_reducible exact (tf h (by assumption)).elim | with_reducible exact (tf (by assumption) h).elim | cbv)) | ((with_reducible first | refine Cb.mk ?_ | refine Lz.mk ?_ | refine JoinT.left ?_ | (apply AllT.mk; intro x hx)); cbv) | ((with_reducible refine Ob.mk (fun _ => ?_) ?_); rotate_left 1) | (with_reducible first | refine Mg.mk (Exists.intro ?_ (And.intro ?_ ?_)) | rfl | refine Fin.mk ?_ | exact True.intro | refine And.intro ?_ ?_))); (all_goals (try (have du : Unit := (); have dv : Unit := (); first | exact Goes.self (Ex2.mk ⟨dv, du, trivial, trivial, rfl⟩) | exact Goes.self (Ex2.mk ⟨x, du, hx, trivial, rfl⟩) | (rename_i xa hxa; exact Goes.self (Ex2.mk ⟨xa, x, hxa, hx, rfl⟩))))); (all_goals (fail_if_success (with_reducible first | show Goes _ _ _ _ | show (∃ _, unr _ _ _ _ _ _))))))) | ((with_reducible first | refine Cb.mk ?_ | refine Lz.mk ?_ | refine JoinT.left ?_ | (apply AllT.mk; intro x hx)); cbv) | ((with_reducible refine Ob.mk (fun _ => ?_) ?_); rotate_left 1) | (with_reducible first | refine Mg.mk (Exists.intro ?_ (And.intro ?_ ?_)) | rfl | refine Fin.mk ?_ | exact True.intro | refine And.intro ?_ ?_)))
     all_goals first | (with_reducible show (∃ _, unr _ _ _ _ _ _); skip) | (with_reducible show UnrI _ _ _ _ _; skip) | (with_reducible show Goes _ _ _ _; skip) | (with_reducible show JoinT _ _ _ _ _ _ _; skip) | (first | ((try dsimp only [Shp.D, Shp.Ds, Shp.dflt] at *); simp only [vem, veq, ne_eq, cmpI, arI, dvI, shI, SV.den, obLt, elemAt, obApp, partL, obPart, lowD, highD, mxOk, convL_self, zerosB, List.length_replicate, vln] at *; (try dsimp only [Shp.D, Shp.Ds, Shp.dflt, Shp.dflts] at *); done) | ((try dsimp only [Shp.D, Shp.Ds, Shp.dflt] at *); simp only [vem, veq, ne_eq, cmpI, arI, dvI, shI, SV.den, obLt, elemAt, obApp, partL, obPart, lowD, highD, mxOk, convL_self, zerosB, List.length_replicate, vln] at *; (try dsimp only [Shp.D, Shp.Ds, Shp.dflt, Shp.dflts] at *); omega) | (try ((try dsimp only [Shp.D, Shp.Ds, Shp.dflt] at *); simp only [vem, veq, ne_eq, cmpI, arI, dvI, shI, SV.den, obLt, elemAt, obApp, partL, obPart, lowD, highD, mxOk, convL_self, zerosB, List.length_replicate, vln] at *; (try dsimp only [Shp.D, Shp.Ds, Shp.dflt, Shp.dflts] at *))))
     all_goals (try (with_reducible show Goes _ _ _ _; (((with_reducible refine hR1 _ ?_ (fun zq bq tq yq hUq => ?_)); (focus (refine EndOk.mk (by cbv) (by cbv) (by cbv; repeat' (first | exact True.intro | exact rfl | with_reducible refine And.intro ?_ ?_)) (by cbv; repeat' (first | exact True.intro | exact rfl | with_reducible refine And.intro ?_ ?_)) (by cbv; repeat' (first | exact True.intro | exact rfl | with_reducible refine And.intro ?_ ?_)))); (have q5 := hUq.z 5); (cbv at q5); (replace q5 := q5.eq); (simp only [atI, vem, veq, ne_eq, cmpI, arI, dvI, shI, SV.den] at q5); (have qy900002 := hUq.y 900002 (i64E)); (cbv at qy900002); (replace qy900002 := qy900002.eq); (simp only [atY, convL_self, vem, veq, ne_eq, cmpI, arI, dvI, shI, SV.den] at qy900002); (clear hUq hR1); (try dsimp only [Shp.D, Shp.Ds, Shp.dflt] at *); (try simp only [vem, veq, ne_eq, cmpI, arI, dvI, shI, SV.den, elemAt, convL_self] at *); (try dsimp only [Shp.D, Shp.Ds, Shp.dflt, Shp.dflts] at *))); (try ((try dsimp only [Shp.D, Shp.Ds, Shp.dflt] at *); simp only [vem, veq, ne_eq, cmpI, arI, dvI, shI, SV.den, obLt, elemAt, obApp, partL, obPart, lowD, highD, mxOk, convL_self, zerosB, List.length_replicate, vln] at *; (try dsimp only [Shp.D, Shp.Ds, Shp.dflt, Shp.dflts] at *))); refine ⟨⟨by omega, by omega, ?_, ?_⟩, by omega⟩; (rw [← qy900002]; simp only [List.length_append, List.length_cons, List.length_nil] at *; omega); (rw [← qy900002]; exact p4.app (sel_ns (by omega) (by omega)))))
   | skip
     refine ⟨3, ?_⟩
     cbv
     (repeat' (first | ((with_reducible apply And.intro <;> intro h) <;> (first | with_reducible exact (tf h (by assumption)).elim | with_reducible exact (tf (by assumption) h).elim | cbv)) | ((with_reducible show JoinT (fun s K => vc _ (Code.region _ _ true) s K) _ _ _ _ _ _); (with_reducible apply JoinT.mg2); (focus (cbv; (repeat' (first | ((with_reducible apply And.intro <;> intro h) <;> (first | with_reducible exact (tf h (by assumption)).elim | with_reducible exact (tf (by assumption) h).elim | cbv)) | ((with_reducible first | refine Cb.mk ?_ | refine Lz.mk ?_ | refine JoinT.left ?_ | (apply AllT.mk; intro x hx)); cbv) | ((with_reducible refine Ob.mk (fun _ => ?_) ?_); rotate_left 1) | (with_reducible first | refine Mg.mk (Exists.intro ?_ (And.intro ?_ ?_)) | rfl | refine Fin.mk ?_ | exact True.intro | refine And.intro ?_ ?_))); (all_goals (try (have du : Unit := (); have dv : Unit := (); first | exact Goes.self (Ex2.mk ⟨dv, du, trivial, trivial, rfl⟩) | exact Goes.self (Ex2.mk ⟨x, du, hx, trivial, rfl⟩) | (rename_i xa hxa; exact Goes.self (Ex2.mk ⟨xa, x, hxa, hx, rfl⟩))))); (all_goals (fail_if_success (with_reducible first | show Goes _ _ _ _ | show (∃ _, unr _ _ _ _ _ _))))))) | ((with_reducible first | refine Cb.mk ?_ | refine Lz.mk ?_ | refine JoinT.left ?_ | (apply AllT.mk; intro x hx)); cbv) | ((with_reducible refine Ob.mk (fun _ => ?_) ?_); rotate_left 1) | (with_reducible first | refine Mg.mk (Exists.intro ?_ (And.intro ?_ ?_)) | rfl | refine Fin.mk ?_ | exact True.intro | refine And.intro ?_ ?_)))
     all_goals first | (with_reducible show (∃ _, unr _ _ _ _ _ _); skip) | (with_reducible show UnrI _ _ _ _ _; skip) | (with_reducible show Goes _ _ _ _; skip) | (with_reducible show JoinT _ _ _ _ _ _ _; skip) | (first | ((try dsimp only [Shp.D, Shp.Ds, Shp.dflt] at *); simp only [vem, veq, ne_eq, cmpI, arI, dvI, shI, SV.den, obLt, elemAt, obApp, partL, obPart, lowD, highD, mxOk, convL_self, zerosB, List.length_replicate, vln] at *; (try dsimp only [Shp.D, Shp.Ds, Shp.dflt, Shp.dflts] at *); done) | ((try dsimp only [Shp.D, Shp.Ds, Shp.dflt] at *); simp only [vem, veq, ne_eq, cmpI, arI, dvI, shI, SV.den, obLt, elemAt, obApp, partL, obPart, lowD, highD, mxOk, convL_self, zerosB, List.length_replicate, vln] at *; (try dsimp only [Shp.D, Shp.Ds, Shp.dflt, Shp.dflts] at *); omega) | (try ((try dsimp only [Shp.D, Shp.Ds, Shp.dflt] at *); simp only [vem, veq, ne_eq, cmpI, arI, dvI, shI, SV.den, obLt, elemAt, obApp, partL, obPart, lowD, highD, mxOk, convL_self, zerosB, List.length_replicate, vln] at *; (try dsimp only [Shp.D, Shp.Ds, Shp.dflt, Shp.dflts] at *))))
     all_goals first
      | (with_reducible show (∃ _, unr _ _ _ _ _ _); skip)
      | (exfalso; ((try dsimp only [Shp.D, Shp.Ds, Shp.dflt] at *); simp only [vem, veq, ne_eq, cmpI, arI, dvI, shI, SV.den, obLt, elemAt, obApp, partL, obPart, lowD, highD, mxOk, convL_self, zerosB, List.length_replicate, vln] at *; (try dsimp only [Shp.D, Shp.Ds, Shp.dflt, Shp.dflts] at *)); omega)
 all_goals
  with_reducible refine loop_hv [(84486, 900001, 50, plE)] (rangeN 41 29) [1256] [900001] (fun z b t y => 0 ≤ z 6 ∧ z 6 ≤ 8 ∧ ((y 900001 plE).length : Int) = z 6 ∧ ∀ i : Nat, i < (y 900001 plE).length → sealT (tyP (y 900001 plE) i) = false) (fun z b t y => (8 - z 6).toNat) (by cbv) (by cbv) ?_ ?_ (fun z2 b2 t2 u2 y2 R2 hP2 hR2 => ?_)
  ·refine EndOk.mk (by cbv) (by cbv) (by cbv; repeat' (first | exact True.intro | exact rfl | with_reducible refine And.intro ?_ ?_)) (by cbv; repeat' (first | exact True.intro | exact rfl | with_reducible refine And.intro ?_ ?_)) (by cbv; repeat' (first | exact True.intro | exact rfl | with_reducible refine And.intro ?_ ?_))
  ·intro zq bq tq yq hUq
   have q6 := hUq.z 6
   cbv at q6
   replace q6 := q6.eq
   simp only [atI, vem, veq, ne_eq, cmpI, arI, dvI, shI, SV.den] at q6
   have qy900001 := hUq.y 900001 (plE)
   cbv at qy900001
   replace qy900001 := qy900001.eq
   simp only [atY, convL_self, vem, veq, ne_eq, cmpI, arI, dvI, shI, SV.den] at qy900001
   clear hUq
   try dsimp only [Shp.D, Shp.Ds, Shp.dflt] at *
   try simp only [vem, veq, ne_eq, cmpI, arI, dvI, shI, SV.den, convL_self] at *
   rw [← q6, ← qy900001]
   exact ⟨by omega, by omega, by simp, fun i hi => by simp at hi⟩
  obtain ⟨r1, r2, r3, r4⟩ := hP2
  cbv
  (repeat' (first | ((with_reducible apply And.intro <;> intro h) <;> (first | with_reducible exact (tf h (by assumption)).elim | with_reducible exact (tf (by assumption) h).elim | cbv)) | ((with_reducible show JoinT (fun s K => vc _ (Code.region _ _ true) s K) _ _ _ _ _ _); (with_reducible apply JoinT.mg2); (focus (cbv; (repeat' (first | ((with_reducible apply And.intro <;> intro h) <;> (first | with_reducible exact (tf h (by assumption)).elim | with_reducible exact (tf (by assumption) h).elim | cbv)) | ((with_reducible first | refine Cb.mk ?_ | refine Lz.mk ?_ | refine JoinT.left ?_ | (apply AllT.mk; intro x hx)); cbv) | ((with_reducible refine Ob.mk (fun _ => ?_) ?_); rotate_left 1) | (with_reducible first | refine Mg.mk (Exists.intro ?_ (And.intro ?_ ?_)) | rfl | refine Fin.mk ?_ | exact True.intro | refine And.intro ?_ ?_))); (all_goals (try (have du : Unit := (); have dv : Unit := (); first | exact Goes.self (Ex2.mk ⟨dv, du, trivial, trivial, rfl⟩) | exact Goes.self (Ex2.mk ⟨x, du, hx, trivial, rfl⟩) | (rename_i xa hxa; exact Goes.self (Ex2.mk ⟨xa, x, hxa, hx, rfl⟩))))); (all_goals (fail_if_success (with_reducible first | show Goes _ _ _ _ | show (∃ _, unr _ _ _ _ _ _))))))) | ((with_reducible first | refine Cb.mk ?_ | refine Lz.mk ?_ | refine JoinT.left ?_ | (apply AllT.mk; intro x hx)); cbv) | ((with_reducible refine Ob.mk (fun _ => ?_) ?_); rotate_left 1) | (with_reducible first | refine Mg.mk (Exists.intro ?_ (And.intro ?_ ?_)) | rfl | refine Fin.mk ?_ | exact True.intro | refine And.intro ?_ ?_)))
  all_goals first
   | (with_reducible show Goes _ _ _ _; skip)
   | ((try dsimp only [Shp.D, Shp.Ds, Shp.dflt] at *); simp only [vem, veq, ne_eq, cmpI, arI, dvI, shI, SV.den, obLt, elemAt, obApp, partL, obPart, lowD, highD, mxOk, convL_self, zerosB, List.length_replicate, vln] at *; (try dsimp only [Shp.D, Shp.Ds, Shp.dflt, Shp.dflts] at *); done)
   | (((try dsimp only [Shp.D, Shp.Ds, Shp.dflt] at *); simp only [vem, veq, ne_eq, cmpI, arI, dvI, shI, SV.den, obLt, elemAt, obApp, partL, obPart, lowD, highD, mxOk, convL_self, zerosB, List.length_replicate, vln] at *; (try dsimp only [Shp.D, Shp.Ds, Shp.dflt, Shp.dflts] at *)); omega)
   | (((try dsimp only [Shp.D, Shp.Ds, Shp.dflt] at *); simp only [vem, veq, ne_eq, cmpI, arI, dvI, shI, SV.den, obLt, elemAt, obApp, partL, obPart, lowD, highD, mxOk, convL_self, zerosB, List.length_replicate, vln] at *; (try dsimp only [Shp.D, Shp.Ds, Shp.dflt, Shp.dflts] at *)); exact MsgG.of r2 r3 r4)
   | (try ((try dsimp only [Shp.D, Shp.Ds, Shp.dflt] at *); simp only [vem, veq, ne_eq, cmpI, arI, dvI, shI, SV.den, obLt, elemAt, obApp, partL, obPart, lowD, highD, mxOk, convL_self, zerosB, List.length_replicate, vln] at *; (try dsimp only [Shp.D, Shp.Ds, Shp.dflt, Shp.dflts] at *)))
  all_goals
   (((with_reducible refine hR2 _ ?_ (fun zq bq tq yq hUq => ?_)); (focus (refine EndOk.mk (by cbv) (by cbv) (by cbv; repeat' (first | exact True.intro | exact rfl | with_reducible refine And.intro ?_ ?_)) (by cbv; repeat' (first | exact True.intro | exact rfl | with_reducible refine And.intro ?_ ?_)) (by cbv; repeat' (first | exact True.intro | exact rfl | with_reducible refine And.intro ?_ ?_)))); (have q6 := hUq.z 6); (cbv at q6); (replace q6 := q6.eq); (simp only [atI, vem, veq, ne_eq, cmpI, arI, dvI, shI, SV.den] at q6); (have qy900001 := hUq.y 900001 (plE)); (cbv at qy900001); (replace qy900001 := qy900001.eq); (simp only [atY, convL_self, vem, veq, ne_eq, cmpI, arI, dvI, shI, SV.den] at qy900001); (clear hUq hR2); (try dsimp only [Shp.D, Shp.Ds, Shp.dflt] at *); (try simp only [vem, veq, ne_eq, cmpI, arI, dvI, shI, SV.den, elemAt, convL_self] at *); (try dsimp only [Shp.D, Shp.Ds, Shp.dflt, Shp.dflts] at *))); (try ((try dsimp only [Shp.D, Shp.Ds, Shp.dflt] at *); simp only [vem, veq, ne_eq, cmpI, arI, dvI, shI, SV.den, obLt, elemAt, obApp, partL, obPart, lowD, highD, mxOk, convL_self, zerosB, List.length_replicate, vln] at *; (try dsimp only [Shp.D, Shp.Ds, Shp.dflt, Shp.dflts] at *)))
   first
    | exact msg_st hx.1 r1 r3 r4 qy900001 (by omega) (by omega) p4 h
    | exact msg_st hx.1 r1 r3 r4 qy900001 (by omega) (by decide) (NsL.of (by rfl)) (by simp only [List.length_cons, List.length_nil]; omega)
    | exact msg_st hx.1 r1 r3 r4 qy900001 (by omega) (by simp only [List.length_append, List.length_cons, List.length_nil]; omega) ((NsL.of (by rfl)).app (sel_ns (by omega) (by omega))) (by simp only [List.length_append, List.length_cons, List.length_nil]; omega)
    | exact msg_st hx.1 r1 r3 r4 qy900001 (by omega) (by simp only [List.length_append, List.length_cons, List.length_nil]; omega) (((NsL.of (by rfl)).app (sel_ns (by omega) (by omega))).app (sel_ns (by omega) (by omega))) (by simp only [List.length_append, List.length_cons, List.length_nil]; omega)
end Go.Proofs.Ytbdfijdianaghaa.V
