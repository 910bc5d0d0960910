/- Curve: the law CurveSmall. -/
import Derived.Test.YtihnagafldpbnaaVUv
set_option linter.unusedVariables false
set_option linter.unusedSimpArgs false
namespace Go.Proofs.Ytihnagafldpbnaa.V
open Go.RowKit
set_option maxHeartbeats 80000000
set_option maxRecDepth 100000
/-- A point whose multiples are all 0. -/
structure SmallP (p : List UInt8) : Prop where
  len : p.length = 32
  sm : Cg (leV p % 57896044618658097711785492504343953926634992332820282019728792003956564819968) 0 ∨ Cg ((leV p % 57896044618658097711785492504343953926634992332820282019728792003956564819968) * (leV p % 57896044618658097711785492504343953926634992332820282019728792003956564819968)) 1
theorem mul_sm {s p : List UInt8} (hs : s.length = 32) (hp : SmallP p) : mulF s p = (List.replicate (Int.toNat 32) 0, 0) := mul_sm0 hs hp.len hp.sm
theorem sm_0 : SmallP (List.replicate (Int.toNat 32) 0) := ⟨by decide, Or.inl ⟨0, by decide +kernel⟩⟩
theorem sm_1 : SmallP (setAt (List.replicate (Int.toNat 32) 0) 0 0 fun _ => toB 1) := ⟨by decide +kernel, Or.inr ⟨0, by decide +kernel⟩⟩
theorem sm_2 {l : List UInt8} (h : l = List.replicate 32 255) : SmallP (setAt (setAt l 0 0 fun _ => toB 236) 31 0 fun _ => toB 127) := by
  subst h
  exact ⟨by decide +kernel, Or.inr ⟨57896044618658097711785492504343953926634992332820282019728792003956564819947, by decide +kernel⟩⟩
theorem sm_3 {l : List UInt8} (h : l = List.replicate 32 255) : SmallP (setAt (setAt l 0 0 fun _ => toB 237) 31 0 fun _ => toB 127) := by
  subst h
  exact ⟨by decide +kernel, Or.inl ⟨1, by decide +kernel⟩⟩
theorem sm_4 {l : List UInt8} (h : l = List.replicate 32 255) : SmallP (setAt (setAt l 0 0 fun _ => toB 238) 31 0 fun _ => toB 127) := by
  subst h
  exact ⟨by decide +kernel, Or.inr ⟨57896044618658097711785492504343953926634992332820282019728792003956564819951, by decide +kernel⟩⟩
theorem all_go {l l' : List UInt8} {n : Int} (h : l.length = 32) (ha : ∀ i : Nat, (i : Int) < n → l.getD i 0 = 255) (h0 : 0 ≤ n) (h1 : n < 32) (e : (setAt l n 0 fun _ => toB 255) = l') : l'.length = 32 ∧ ∀ i : Nat, (i : Int) < n + 1 → l'.getD i 0 = 255 := by
  subst e
  unfold setAt
  refine ⟨by rw [List.length_set, h], fun i hi => ?_⟩
  rw [List.getD_eq_getElem?_getD, List.getElem?_set]
  split
  · rw [if_pos (by omega)]; rfl
  · have := ha i (by omega)
    rw [List.getD_eq_getElem?_getD] at this
    exact this
theorem all_255 {l : List UInt8} (h : l.length = 32) (ha : ∀ i : Nat, (i : Int) < 32 → l.getD i 0 = 255) : l = List.replicate 32 255 := by
  apply List.ext_getElem
  · rw [h, List.length_replicate]
  · intro i h1 h2
    have := ha i (by omega)
    rw [List.getD_eq_getElem?_getD, List.getElem?_eq_getElem h1] at this
    rw [List.getElem_replicate]
    simpa using this
theorem sh_sm {s p : List UInt8} (hs : s.length = 32) (hp : SmallP p) : sharF s p = ([], 13) := by
  unfold sharF
  rw [mul_sm hs hp]
  rfl
def smaC_t : SpecT := nd0 10 (nd0 8 (lf0 7 (aw14Sp)) (nd0 9 (lf0 8 (newSpec 39)) (lf0 9 (drSpec 39 [.int .i64] [.sl .byte] [.own 5] (fun x => x.1 ≤ 1048576) (fun x y => (y.1.length : Int) = max 0 x.1))))) (nd0 12 (lf0 10 (mulSp14)) (nd0 13 (lf0 12 (eqSp)) (lf0 13 (shSp))))
def smaC : Cx := ⟨tt, qt, bt, st, smaC_t, 0, 1000000000000000, fun _ => none, false, CxE.no, []⟩
theorem smaC_si {E : Env} (h : E.ok) : SpecsOk Try.prog E (CxE.no) smaC_t (fun _ => none) := ⟨(nd0_ok (nd0_ok (lf0_ok (.inl (aw14_sp h))) (nd0_ok (lf0_ok (.inl (new_sp h))) (lf0_ok (.inl (bytes_sp h))))) (nd0_ok (lf0_ok (.inl (mty_sp h))) (nd0_ok (lf0_ok (.inl (reql_sp h))) (lf0_ok (.inl (sh_sp h)))))), noI_ok _ _ _⟩
theorem smaC_x {E : Env} (h : E.ok) : CxEOk Try.prog E (CxE.no) := CxE.no_ok _ _
theorem smaC_cx (E : Env) (h : E.ok) (h1 : E.lo = 0) (h2 : E.hi = 1000000000000000) : Cx.ok smaC Try.prog E := ⟨tt_ok, qt_ok, bt_ok, smaC_si h, h, h1, h2, mixed_ok, smaC_x h⟩
theorem smaC_from (lo hi : Nat) (E : Env) (h : E.ok) (h1 : E.lo = lo) (h2 : E.hi = hi) : Cx.ok (Cx.from smaC lo hi) Try.prog E := ⟨tt_ok, qt_ok, bt_ok, smaC_si h, h, h1, h2, mixed_ok, smaC_x h⟩
abbrev smaAs : List Shp := [.sl .byte, .int .u8]
theorem sma_vc (x : Shp.Ds smaAs) (hi : inrs smaAs x) : vcLaw smaC Try.f6 smaAs x := by
  obtain ⟨codes, which, u⟩ := x
  have hv := u8_in14 hi.2.1
  clear hi
  cbv
  (repeat' (first | ((with_reducible refine And.intro (fun h => ?_) (fun h => ?_)) <;> (first | with_reducible exact (tf h (by assumption)).elim | with_reducible exact (tf (by assumption) h).elim | cbv)) | ((with_reducible show JoinT (fun s K => vc _ (Code.region _ _ true) s K) _ _ _ _ _ _); (with_reducible apply JoinT.mg2); (focus (cbv; (repeat' (first | ((with_reducible refine And.intro (fun h => ?_) (fun h => ?_)) <;> (first | with_reducible exact (tf h (by assumption)).elim | with_reducible exact (tf (by assumption) h).elim | cbv)) | ((with_reducible first | refine Cb.mk ?_ | refine Lz.mk ?_ | refine JoinT.left ?_ | refine AllT.mk (fun x hx => ?_)); cbv) | ((with_reducible refine Ob.mk (fun _ => ?_) ?_); rotate_left 1) | (with_reducible first | refine Mg.mk (Exists.intro ?_ (And.intro ?_ ?_)) | rfl | refine Fin.mk ?_ | exact True.intro | refine And.intro ?_ ?_))); (all_goals (try (have du : Unit := (); have dv : Unit := (); first | exact Goes.self (Ex2.mk ⟨dv, du, trivial, trivial, rfl⟩) | exact Goes.self (Ex2.mk ⟨x, du, hx, trivial, rfl⟩) | (rename_i xa hxa; exact Goes.self (Ex2.mk ⟨xa, x, hxa, hx, rfl⟩))))); (all_goals (fail_if_success (with_reducible first | show Goes _ _ _ _ | show (∃ _, unr _ _ _ _ _ _))))))) | ((with_reducible first | refine Cb.mk ?_ | refine Lz.mk ?_ | refine JoinT.left ?_ | refine AllT.mk (fun x hx => ?_)); cbv) | ((with_reducible refine Ob.mk (fun _ => ?_) ?_); rotate_left 1) | (with_reducible first | refine Mg.mk (Exists.intro ?_ (And.intro ?_ ?_)) | rfl | refine Fin.mk ?_ | exact True.intro | refine And.intro ?_ ?_)))
  all_goals first | (with_reducible show (∃ _, unr _ _ _ _ _ _); skip) | (with_reducible show UnrI _ _ _ _ _; skip) | (with_reducible show Goes _ _ _ _; skip) | (with_reducible show JoinT _ _ _ _ _ _ _; skip) | (first | ((try dsimp only [Shp.D, Shp.Ds, Shp.dflt] at *); simp only [vem, veq, ne_eq, cmpI, arI, dvI, shI, SV.den, obLt, elemAt, obApp, partL, obPart, lowD, highD, mxOk, convL_self, zerosB, List.length_replicate, vln] at *; (try dsimp only [Shp.D, Shp.Ds, Shp.dflt, Shp.dflts] at *); done) | ((try dsimp only [Shp.D, Shp.Ds, Shp.dflt] at *); simp only [vem, veq, ne_eq, cmpI, arI, dvI, shI, SV.den, obLt, elemAt, obApp, partL, obPart, lowD, highD, mxOk, convL_self, zerosB, List.length_replicate, vln] at *; (try dsimp only [Shp.D, Shp.Ds, Shp.dflt, Shp.dflts] at *); omega) | (try ((try dsimp only [Shp.D, Shp.Ds, Shp.dflt] at *); simp only [vem, veq, ne_eq, cmpI, arI, dvI, shI, SV.den, obLt, elemAt, obApp, partL, obPart, lowD, highD, mxOk, convL_self, zerosB, List.length_replicate, vln] at *; (try dsimp only [Shp.D, Shp.Ds, Shp.dflt, Shp.dflts] at *))))
  all_goals first
    | (with_reducible show (∃ _, unr _ _ _ _ _ _); skip)
    | (simp_all; done)
    | (simp (disch := first | omega | exact sm_0 | exact sm_1) only [mul_sm, sh_sm, Prod.mk.injEq] at *
       simp_all)
  all_goals
    with_reducible refine loop_hv [] (7 :: rangeN 31 37) [] [1448] (fun z b t y => 0 ≤ z 30 ∧ z 30 ≤ 32 ∧ (y 1448 .byte).length = 32 ∧ ∀ i : Nat, (i : Int) < z 30 → (y 1448 .byte).getD i 0 = 255) (fun z b t y => (32 - z 30).toNat) (by cbv) (by cbv) ?_ ?_ (fun z1 b1 t1 u1 y1 R1 hP1 hR1 => ?_)
    · refine EndOk.mk (by cbv) (by cbv) (by cbv; repeat' (first | exact True.intro | exact rfl | with_reducible refine And.intro ?_ ?_)) (by cbv; repeat' (first | exact True.intro | exact rfl | with_reducible refine And.intro ?_ ?_)) (by cbv; repeat' (first | exact True.intro | exact rfl | with_reducible refine And.intro ?_ ?_))
    · intro zq bq tq yq hUq
      have q30 := hUq.z 30
      cbv at q30
      replace q30 := q30.eq
      simp only [atI, vem, veq, ne_eq, cmpI, arI, dvI, shI, SV.den] at q30
      have qy1448 := hUq.y 1448 (.byte)
      cbv at qy1448
      replace qy1448 := qy1448.eq
      simp only [atY, convL_self, vem, veq, ne_eq, cmpI, arI, dvI, shI, SV.den] at qy1448
      clear hUq
      try dsimp only [Shp.D, Shp.Ds, Shp.dflt] at *
      try simp only [vem, veq, ne_eq, cmpI, arI, dvI, shI, SV.den, convL_self] at *
      rw [← q30, ← qy1448]
      exact ⟨by omega, by omega, by simp [zerosB, den_c], fun i hi => by omega⟩
    obtain ⟨p1, p2, p3, p4⟩ := hP1
    cbv
    (repeat' (first | ((with_reducible refine And.intro (fun h => ?_) (fun h => ?_)) <;> (first | with_reducible exact (tf h (by assumption)).elim | with_reducible exact (tf (by assumption) h).elim | cbv)) | ((with_reducible show JoinT (fun s K => vc _ (Code.region _ _ true) s K) _ _ _ _ _ _); (with_reducible apply JoinT.mg2); (focus (cbv; (repeat' (first | ((with_reducible refine And.intro (fun h => ?_) (fun h => ?_)) <;> (first | with_reducible exact (tf h (by assumption)).elim | with_reducible exact (tf (by assumption) h).elim | cbv)) | ((with_reducible first | refine Cb.mk ?_ | refine Lz.mk ?_ | refine JoinT.left ?_ | refine AllT.mk (fun x hx => ?_)); cbv) | ((with_reducible refine Ob.mk (fun _ => ?_) ?_); rotate_left 1) | (with_reducible first | refine Mg.mk (Exists.intro ?_ (And.intro ?_ ?_)) | rfl | refine Fin.mk ?_ | exact True.intro | refine And.intro ?_ ?_))); (all_goals (try (have du : Unit := (); have dv : Unit := (); first | exact Goes.self (Ex2.mk ⟨dv, du, trivial, trivial, rfl⟩) | exact Goes.self (Ex2.mk ⟨x, du, hx, trivial, rfl⟩) | (rename_i xa hxa; exact Goes.self (Ex2.mk ⟨xa, x, hxa, hx, rfl⟩))))); (all_goals (fail_if_success (with_reducible first | show Goes _ _ _ _ | show (∃ _, unr _ _ _ _ _ _))))))) | ((with_reducible first | refine Cb.mk ?_ | refine Lz.mk ?_ | refine JoinT.left ?_ | refine AllT.mk (fun x hx => ?_)); cbv) | ((with_reducible refine Ob.mk (fun _ => ?_) ?_); rotate_left 1) | (with_reducible first | refine Mg.mk (Exists.intro ?_ (And.intro ?_ ?_)) | rfl | refine Fin.mk ?_ | exact True.intro | refine And.intro ?_ ?_)))
    all_goals first | (with_reducible show (∃ _, unr _ _ _ _ _ _); skip) | (with_reducible show UnrI _ _ _ _ _; skip) | (with_reducible show Goes _ _ _ _; skip) | (with_reducible show JoinT _ _ _ _ _ _ _; skip) | (first | ((try dsimp only [Shp.D, Shp.Ds, Shp.dflt] at *); simp only [vem, veq, ne_eq, cmpI, arI, dvI, shI, SV.den, obLt, elemAt, obApp, partL, obPart, lowD, highD, mxOk, convL_self, zerosB, List.length_replicate, vln] at *; (try dsimp only [Shp.D, Shp.Ds, Shp.dflt, Shp.dflts] at *); done) | ((try dsimp only [Shp.D, Shp.Ds, Shp.dflt] at *); simp only [vem, veq, ne_eq, cmpI, arI, dvI, shI, SV.den, obLt, elemAt, obApp, partL, obPart, lowD, highD, mxOk, convL_self, zerosB, List.length_replicate, vln] at *; (try dsimp only [Shp.D, Shp.Ds, Shp.dflt, Shp.dflts] at *); omega) | (try ((try dsimp only [Shp.D, Shp.Ds, Shp.dflt] at *); simp only [vem, veq, ne_eq, cmpI, arI, dvI, shI, SV.den, obLt, elemAt, obApp, partL, obPart, lowD, highD, mxOk, convL_self, zerosB, List.length_replicate, vln] at *; (try dsimp only [Shp.D, Shp.Ds, Shp.dflt, Shp.dflts] at *))))
    all_goals first
      | (with_reducible show Goes _ _ _ _
         (((with_reducible refine hR1 _ ?_ (fun zq bq tq yq hUq => ?_)); (focus (refine EndOk.mk (by cbv) (by cbv) (by cbv; repeat' (first | exact True.intro | exact rfl | with_reducible refine And.intro ?_ ?_)) (by cbv; repeat' (first | exact True.intro | exact rfl | with_reducible refine And.intro ?_ ?_)) (by cbv; repeat' (first | exact True.intro | exact rfl | with_reducible refine And.intro ?_ ?_)))); (have q30 := hUq.z 30); (cbv at q30); (replace q30 := q30.eq); (simp only [atI, vem, veq, ne_eq, cmpI, arI, dvI, shI, SV.den] at q30); (have qy1448 := hUq.y 1448 (.byte)); (cbv at qy1448); (replace qy1448 := qy1448.eq); (simp only [atY, convL_self, vem, veq, ne_eq, cmpI, arI, dvI, shI, SV.den] at qy1448); (clear hUq hR1); (try dsimp only [Shp.D, Shp.Ds, Shp.dflt] at *); (try simp only [vem, veq, ne_eq, cmpI, arI, dvI, shI, SV.den, elemAt, convL_self] at *); (try dsimp only [Shp.D, Shp.Ds, Shp.dflt, Shp.dflts] at *))); (try ((try dsimp only [Shp.D, Shp.Ds, Shp.dflt] at *); simp only [vem, veq, ne_eq, cmpI, arI, dvI, shI, SV.den, obLt, elemAt, obApp, partL, obPart, lowD, highD, mxOk, convL_self, zerosB, List.length_replicate, vln] at *; (try dsimp only [Shp.D, Shp.Ds, Shp.dflt, Shp.dflts] at *)))
         obtain ⟨r1, r2⟩ := all_go p3 p4 p1 (by omega) qy1448
         exact ⟨⟨by omega, by omega, r1, fun i hi => r2 i (by omega)⟩, by omega⟩)
      | (simp_all; done)
      | (simp only [setAt, List.length_set]; omega)
      | (rw [IntKind.wrap_u8]; omega)
      | (have e := all_255 p3 (fun i hi => p4 i (by omega))
         first
           | (have k : which.tmod 5 = 2 := by assumption
              simp only [k, show IntKind.u8.wrap (IntKind.u8.wrap (236 + 2) - 2) = 236 from by decide] at *
              simp (disch := first | omega | exact sm_2 e) only [mul_sm, sh_sm, Prod.mk.injEq] at *
              simp_all; done)
           | (have k : which.tmod 5 = 3 := by assumption
              simp only [k, show IntKind.u8.wrap (IntKind.u8.wrap (236 + 3) - 2) = 237 from by decide] at *
              simp (disch := first | omega | exact sm_3 e) only [mul_sm, sh_sm, Prod.mk.injEq] at *
              simp_all; done)
           | (have k : which.tmod 5 = 4 := by assumption
              simp only [k, show IntKind.u8.wrap (IntKind.u8.wrap (236 + 4) - 2) = 238 from by decide] at *
              simp (disch := first | omega | exact sm_4 e) only [mul_sm, sh_sm, Prod.mk.injEq] at *
              simp_all; done))
theorem law_CurveSmall (x : Shp.Ds smaAs) (w : World) (vals : List Value) (hr : ArgsRep w smaAs x vals) (hi : inrs smaAs x) : Calls Try.prog 6 vals.toArray w fun e w' => e = .returned (.bool true) ∧ Below w.heap.size w w' :=
  law_of_vc Try.func6 (by kernel_rfl) smaC_cx hr (sma_vc x hi)
end Go.Proofs.Ytihnagafldpbnaa.V
