/- Contracts: headers are drawn; the sanity check of chapter 2. -/
import Derived.Test.YtfcpbeolhlkmnaaVHe
import Derived.Test.YtfcpbeolhlkmnaaVA
set_option linter.unusedVariables false
set_option linter.unusedSimpArgs false
namespace Go.Proofs.Ytfcpbeolhlkmnaa.V
open Go.RowKit
set_option maxHeartbeats 8000000
set_option maxRecDepth 100000
/-- A header that is drawn. -/
structure HdG (h : HdT) : Prop where
  ck : ckF h = 0
  i0 : 0 ≤ h.1
  i1 : h.1 ≤ 18446744073709551615
  r0 : 0 ≤ h.2.1
  r1 : h.2.1 ≤ 18446744073709551615
  n : h.2.2.1 = 0
  e0 : 34 ≤ h.2.2.2.1
  e1 : h.2.2.2.1 ≤ 37
  f : h.2.2.2.2.1 = 8 ∨ h.2.2.2.2.1 = 32 ∨ h.2.2.2.2.1 = 40 ∨ h.2.2.2.2.1 = 0
  m0 : 0 ≤ h.2.2.2.2.2.1
  m1 : h.2.2.2.2.2.1 ≤ 255
theorem hdG {i r e f m : Int} (i0 : 0 < i) (i1 : i ≤ 18446744073709551615) (r0 : 0 ≤ r) (r1 : r ≤ 18446744073709551615) (e0 : 34 ≤ e) (e1 : e ≤ 37) (hf : f = 8 ∨ f = 32 ∨ f = 40 ∨ f = 0) (m0 : 0 ≤ m) (m1 : m ≤ 255) (hr : e = 34 ∨ 0 < r) (hm : ¬ e = 34 ∨ m = 0) : HdG (i, r, 0, e, f, m, ()) := by
  refine ⟨?_, by dsimp only; omega, i1, r0, r1, rfl, e0, e1, hf, m0, m1⟩
  have hb : bits .andNot .i64 f 56 = 0 := by rcases hf with rfl | rfl | rfl | rfl <;> kernel_rfl
  unfold ckF
  dsimp only
  rw [if_neg (by omega), if_neg (by omega), if_neg (by omega), if_neg (by omega)]
theorem flag4 {v : Int} (h0 : 0 ≤ v) (h1 : v < 4) : selI [8, 32, 40, 0] v = 8 ∨ selI [8, 32, 40, 0] v = 32 ∨ selI [8, 32, 40, 0] v = 40 ∨ selI [8, 32, 40, 0] v = 0 := by
  rcases (by omega : v = 0 ∨ v = 1 ∨ v = 2 ∨ v = 3) with rfl | rfl | rfl | rfl
  · exact .inl rfl
  · exact .inr (.inl rfl)
  · exact .inr (.inr (.inl rfl))
  · exact .inr (.inr (.inr rfl))
abbrev nextS : Spec := drSpec 69 [.int .i64] [.int .i64] [] nextPre nextPost
abbrev wordS : Spec := drSpec 69 [] [.int .u64] [] (fun _ => True) wordPost
def dhC_t : SpecT := nd0 44 (lf0 15 (nextS)) (lf0 44 (wordS))
def dhC : Cx := ⟨tt, qt, bt, st, dhC_t, 0, 1000000000000000, fun _ => none, false⟩
theorem dhC_si {E : Env} (h : E.ok) : SpecsOk Try.prog E dhC_t (fun _ => none) := ⟨(nd0_ok (lf0_ok (next_sp h)) (lf0_ok (word_sp h))), noI_ok _ _⟩
theorem dhC_cx (E : Env) (h : E.ok) (h1 : E.lo = 0) (h2 : E.hi = 1000000000000000) : Cx.ok dhC Try.prog E := ⟨tt_ok, qt_ok, bt_ok, dhC_si h, h, h1, h2, mixed_ok⟩
theorem dhC_from (lo hi : Nat) (E : Env) (h : E.ok) (h1 : E.lo = lo) (h2 : E.hi = hi) : Cx.ok (Cx.from dhC lo hi) Try.prog E := ⟨tt_ok, qt_ok, bt_ok, dhC_si h, h, h1, h2, mixed_ok⟩
abbrev hdrS : Spec := drSpec 69 [] [hdE] [] (fun _ => True) (fun _ y => HdG y.1)
theorem dhd_fn : hasFn Try.prog 24 := ⟨_, Try.func24, by rfl, by rfl⟩
theorem dhd_sp {E : Env} (hE : E.ok) : SpecOk Try.prog E 24 hdrS := by
  refine spec_of_vcD (C := dhC) dhd_fn Try.func24 (by kernel_rfl) dhC_cx (fun x hl hx => ?_) hE
  obtain ⟨⟩ := x
  cbv
  (repeat' (first | ((with_reducible refine And.intro (fun h => ?_) (fun h => ?_)) <;> (first | with_reducible exact (tf h (by assumption)).elim | with_reducible exact (tf (by assumption) h).elim | cbv)) | ((with_reducible show JoinT (fun s K => vc _ (Code.region _ _ true) s K) _ _ _ _ _); (with_reducible apply JoinT.mg2); (focus (cbv; (repeat' (first | ((with_reducible refine And.intro (fun h => ?_) (fun h => ?_)) <;> (first | with_reducible exact (tf h (by assumption)).elim | with_reducible exact (tf (by assumption) h).elim | cbv)) | ((with_reducible first | refine Cb.mk ?_ | refine Lz.mk ?_ | refine JoinT.left ?_ | refine AllT.mk (fun x hx => ?_)); cbv) | ((with_reducible refine Ob.mk (fun _ => ?_) ?_); rotate_left 1) | (with_reducible first | refine Mg.mk (Exists.intro ?_ (And.intro ?_ ?_)) | rfl | refine Fin.mk ?_ | exact True.intro | refine And.intro ?_ ?_))); (all_goals (try (have du : Unit := (); have dv : Unit := (); first | exact Goes.self (Ex2.mk ⟨dv, du, trivial, trivial, rfl⟩) | exact Goes.self (Ex2.mk ⟨x, du, hx, trivial, rfl⟩) | (rename_i xa hxa; exact Goes.self (Ex2.mk ⟨xa, x, hxa, hx, rfl⟩))))); (all_goals (fail_if_success (with_reducible first | show Goes _ _ _ _ | show (∃ _, unr _ _ _ _ _ _))))))) | ((with_reducible first | refine Cb.mk ?_ | refine Lz.mk ?_ | refine JoinT.left ?_ | refine AllT.mk (fun x hx => ?_)); cbv) | ((with_reducible refine Ob.mk (fun _ => ?_) ?_); rotate_left 1) | (with_reducible first | refine Mg.mk (Exists.intro ?_ (And.intro ?_ ?_)) | rfl | refine Fin.mk ?_ | exact True.intro | refine And.intro ?_ ?_)))
  all_goals first | (with_reducible show (∃ _, unr _ _ _ _ _ _); skip) | (with_reducible show Goes _ _ _ _; skip) | (with_reducible show JoinT _ _ _ _ _ _; skip) | (first | ((try dsimp only [Shp.D, Shp.Ds, Shp.dflt] at *); simp only [vem, veq, ne_eq, cmpI, arI, dvI, shI, SV.den, obLt, elemAt, obApp, partL, obPart, lowD, highD, mxOk, convL_self, zerosB, List.length_replicate, vln] at *; (try dsimp only [Shp.D, Shp.Ds, Shp.dflt, Shp.dflts] at *); done) | ((try dsimp only [Shp.D, Shp.Ds, Shp.dflt] at *); simp only [vem, veq, ne_eq, cmpI, arI, dvI, shI, SV.den, obLt, elemAt, obApp, partL, obPart, lowD, highD, mxOk, convL_self, zerosB, List.length_replicate, vln] at *; (try dsimp only [Shp.D, Shp.Ds, Shp.dflt, Shp.dflts] at *); omega) | ((try dsimp only [Shp.D, Shp.Ds, Shp.dflt] at *); simp only [vem, veq, ne_eq, cmpI, arI, dvI, shI, SV.den, obLt, elemAt, obApp, partL, obPart, lowD, highD, mxOk, convL_self, zerosB, List.length_replicate, vln] at *; (try dsimp only [Shp.D, Shp.Ds, Shp.dflt, Shp.dflts] at *); simp only [Shp.lims, Shp.lim, and_true, IntKind.wrap_u32] at *; refine hdG ?_ ?_ ?_ ?_ ?_ ?_ ?_ ?_ ?_ ?_ ?_ <;> first | omega | exact flag4 (by omega) (by omega)))
abbrev awH : HdT := (1, 0, 33, 34, 8, 0, ())
theorem awh1 {x : List UInt8} {e : Int} {P : Prop} (h : (x, e) = buildF awH 28 ∧ P) : e = 0 ∧ (x.length : Int) = 28 ∧ parseF x = (awH, 0) ∧ (parseF (setAt x 17 0 fun _ => toB 48)).2 = 3 := by
  have h1 : x = (buildF awH 28).1 := congrArg Prod.fst h.1
  have h2 : e = (buildF awH 28).2 := congrArg Prod.snd h.1
  subst h1 h2
  exact ⟨by kernel_rfl, by kernel_rfl, by kernel_rfl, by kernel_rfl⟩
theorem awh2 {x : List UInt8} {e f : Int} {y : HdT} {P Q : Prop} (h : (x, e) = buildF awH 28 ∧ P) (h2 : (y, f) = parseF x ∧ Q) : y = awH ∧ f = 0 := by
  rw [(awh1 h).2.2.1] at h2
  simpa only [Prod.mk.injEq] using h2.1
theorem awh3 {x : List UInt8} {e f : Int} {y : HdT} {P Q : Prop} (h : (x, e) = buildF awH 28 ∧ P) (h2 : (y, f) = parseF (setAt x 17 0 fun _ => toB 48) ∧ Q) : f = 3 := by
  have := (awh1 h).2.2.2
  rw [← h2.1] at this
  exact this
def awhC_t : SpecT := nd0 29 (lf0 27 (hpaSp)) (lf0 29 (hbuSp))
def awhC : Cx := ⟨tt, qt, bt, st, awhC_t, 0, 1000000000000000, fun _ => none, false⟩
theorem awhC_si {E : Env} (h : E.ok) : SpecsOk Try.prog E awhC_t (fun _ => none) := ⟨(nd0_ok (lf0_ok (hpa_sp h)) (lf0_ok (hbu_sp h))), noI_ok _ _⟩
theorem awhC_cx (E : Env) (h : E.ok) (h1 : E.lo = 0) (h2 : E.hi = 1000000000000000) : Cx.ok awhC Try.prog E := ⟨tt_ok, qt_ok, bt_ok, awhC_si h, h, h1, h2, mixed_ok⟩
theorem awhC_from (lo hi : Nat) (E : Env) (h : E.ok) (h1 : E.lo = lo) (h2 : E.hi = hi) : Cx.ok (Cx.from awhC lo hi) Try.prog E := ⟨tt_ok, qt_ok, bt_ok, awhC_si h, h, h1, h2, mixed_ok⟩
theorem awh_fn : hasFn Try.prog 23 := ⟨_, Try.func23, by rfl, by rfl⟩
abbrev awhSp : Spec := fnSpec [] [.bool] [] (fun _ => True) fun _ y => y.1 = true
theorem awh_sp {E : Env} (hE : E.ok) : SpecOk Try.prog E 23 awhSp := by
  refine spec_of_vc (C := awhC) awh_fn Try.func23 (by kernel_rfl) awhC_cx (fun x hl hx => ?_) hE
  obtain ⟨⟩ := x
  cbv
  (repeat' (first | ((with_reducible refine And.intro (fun h => ?_) (fun h => ?_)) <;> (first | with_reducible exact (tf h (by assumption)).elim | with_reducible exact (tf (by assumption) h).elim | cbv)) | ((with_reducible show JoinT (fun s K => vc _ (Code.region _ _ true) s K) _ _ _ _ _); (with_reducible apply JoinT.mg2); (focus (cbv; (repeat' (first | ((with_reducible refine And.intro (fun h => ?_) (fun h => ?_)) <;> (first | with_reducible exact (tf h (by assumption)).elim | with_reducible exact (tf (by assumption) h).elim | cbv)) | ((with_reducible first | refine Cb.mk ?_ | refine Lz.mk ?_ | refine JoinT.left ?_ | refine AllT.mk (fun x hx => ?_)); cbv) | ((with_reducible refine Ob.mk (fun _ => ?_) ?_); rotate_left 1) | (with_reducible first | refine Mg.mk (Exists.intro ?_ (And.intro ?_ ?_)) | rfl | refine Fin.mk ?_ | exact True.intro | refine And.intro ?_ ?_))); (all_goals (try (have du : Unit := (); have dv : Unit := (); first | exact Goes.self (Ex2.mk ⟨dv, du, trivial, trivial, rfl⟩) | exact Goes.self (Ex2.mk ⟨x, du, hx, trivial, rfl⟩) | (rename_i xa hxa; exact Goes.self (Ex2.mk ⟨xa, x, hxa, hx, rfl⟩))))); (all_goals (fail_if_success (with_reducible first | show Goes _ _ _ _ | show (∃ _, unr _ _ _ _ _ _))))))) | ((with_reducible first | refine Cb.mk ?_ | refine Lz.mk ?_ | refine JoinT.left ?_ | refine AllT.mk (fun x hx => ?_)); cbv) | ((with_reducible refine Ob.mk (fun _ => ?_) ?_); rotate_left 1) | (with_reducible first | refine Mg.mk (Exists.intro ?_ (And.intro ?_ ?_)) | rfl | refine Fin.mk ?_ | exact True.intro | refine And.intro ?_ ?_)))
  all_goals first | (with_reducible show (∃ _, unr _ _ _ _ _ _); skip) | (with_reducible show Goes _ _ _ _; skip) | (with_reducible show JoinT _ _ _ _ _ _; skip) | (first | ((try dsimp only [Shp.D, Shp.Ds, Shp.dflt] at *); simp only [vem, veq, ne_eq, cmpI, arI, dvI, shI, SV.den, obLt, elemAt, obApp, partL, obPart, lowD, highD, mxOk, convL_self, zerosB, List.length_replicate, vln] at *; (try dsimp only [Shp.D, Shp.Ds, Shp.dflt, Shp.dflts] at *); done) | ((try dsimp only [Shp.D, Shp.Ds, Shp.dflt] at *); simp only [vem, veq, ne_eq, cmpI, arI, dvI, shI, SV.den, obLt, elemAt, obApp, partL, obPart, lowD, highD, mxOk, convL_self, zerosB, List.length_replicate, vln] at *; (try dsimp only [Shp.D, Shp.Ds, Shp.dflt, Shp.dflts] at *); omega) | ((try dsimp only [Shp.D, Shp.Ds, Shp.dflt] at *); simp only [vem, veq, ne_eq, cmpI, arI, dvI, shI, SV.den, obLt, elemAt, obApp, partL, obPart, lowD, highD, mxOk, convL_self, zerosB, List.length_replicate, vln] at *; (try dsimp only [Shp.D, Shp.Ds, Shp.dflt, Shp.dflts] at *); exact absurd (awh1 (by assumption)).1 h) | ((try dsimp only [Shp.D, Shp.Ds, Shp.dflt] at *); simp only [vem, veq, ne_eq, cmpI, arI, dvI, shI, SV.den, obLt, elemAt, obApp, partL, obPart, lowD, highD, mxOk, convL_self, zerosB, List.length_replicate, vln] at *; (try dsimp only [Shp.D, Shp.Ds, Shp.dflt, Shp.dflts] at *); exact absurd (awh1 (by assumption)).2.1 h) | ((try dsimp only [Shp.D, Shp.Ds, Shp.dflt] at *); simp only [vem, veq, ne_eq, cmpI, arI, dvI, shI, SV.den, obLt, elemAt, obApp, partL, obPart, lowD, highD, mxOk, convL_self, zerosB, List.length_replicate, vln] at *; (try dsimp only [Shp.D, Shp.Ds, Shp.dflt, Shp.dflts] at *); exact awh3 (by assumption) (by assumption)) | ((try dsimp only [Shp.D, Shp.Ds, Shp.dflt] at *); simp only [vem, veq, ne_eq, cmpI, arI, dvI, shI, SV.den, obLt, elemAt, obApp, partL, obPart, lowD, highD, mxOk, convL_self, zerosB, List.length_replicate, vln] at *; (try dsimp only [Shp.D, Shp.Ds, Shp.dflt, Shp.dflts] at *); exact absurd (awh2 (by assumption) (by assumption)).2 h) | ((try dsimp only [Shp.D, Shp.Ds, Shp.dflt] at *); simp only [vem, veq, ne_eq, cmpI, arI, dvI, shI, SV.den, obLt, elemAt, obApp, partL, obPart, lowD, highD, mxOk, convL_self, zerosB, List.length_replicate, vln] at *; (try dsimp only [Shp.D, Shp.Ds, Shp.dflt, Shp.dflts] at *); have k := (awh2 (by assumption) (by assumption)).1; rw [k] at h; simp at h; done))
end Go.Proofs.Ytfcpbeolhlkmnaa.V
