/- Contracts: chains are drawn; the sanity check of chapter 3; which types have a name. -/
import Derived.Test.YtfcpbeolhlkmnaaVCc
import Derived.Test.YtfcpbeolhlkmnaaVA
import Derived.Test.YtfcpbeolhlkmnaaVC
set_option linter.unusedVariables false
set_option linter.unusedSimpArgs false
namespace Go.Proofs.Ytfcpbeolhlkmnaa.V
open Go.RowKit
set_option maxHeartbeats 8000000
set_option maxRecDepth 100000
/-! Known. -/
def knownF (k : Int) : Bool := decide ((33 ≤ k ∧ k ≤ 37) ∨ (39 ≤ k ∧ k ≤ 46) ∨ k = 53)
theorem kn53 {k : Int} (h : ¬ (33 ≤ k ∧ k ≤ 37)) (h' : ¬ (39 ≤ k ∧ k ≤ 46)) : (k == 53) = knownF k := by
  by_cases hk : k = 53
  · subst hk; rfl
  · unfold knownF
    rw [show (k == 53) = false by simpa using hk, eq_comm, decide_eq_false_iff_not]
    omega
abbrev knSp : Spec := fnSpec [.int .i64] [.bool] [] (fun _ => True) fun x y => y.1 = knownF x.1
theorem ckn_fn : hasFn Try.prog 21 := ⟨_, Try.func21, by rfl, by rfl⟩
theorem ckn_sp {E : Env} (hE : E.ok) : SpecOk Try.prog E 21 knSp := by
  refine spec_of_vc (C := cnC) ckn_fn Try.func21 (by kernel_rfl) cnC_cx (fun x hl hx => ?_) hE
  obtain ⟨k, _⟩ := x
  cbv
  (repeat' (first | ((with_reducible refine And.intro (fun h => ?_) (fun h => ?_)) <;> (first | with_reducible exact (tf h (by assumption)).elim | with_reducible exact (tf (by assumption) h).elim | cbv)) | ((with_reducible show JoinT (fun s K => vc _ (Code.region _ _ true) s K) _ _ _ _ _); (with_reducible apply JoinT.mg2); (focus (cbv; (repeat' (first | ((with_reducible refine And.intro (fun h => ?_) (fun h => ?_)) <;> (first | with_reducible exact (tf h (by assumption)).elim | with_reducible exact (tf (by assumption) h).elim | cbv)) | ((with_reducible first | refine Cb.mk ?_ | refine Lz.mk ?_ | refine JoinT.left ?_ | refine AllT.mk (fun x hx => ?_)); cbv) | ((with_reducible refine Ob.mk (fun _ => ?_) ?_); rotate_left 1) | (with_reducible first | refine Mg.mk (Exists.intro ?_ (And.intro ?_ ?_)) | rfl | refine Fin.mk ?_ | exact True.intro | refine And.intro ?_ ?_))); (all_goals (try (have du : Unit := (); have dv : Unit := (); first | exact Goes.self (Ex2.mk ⟨dv, du, trivial, trivial, rfl⟩) | exact Goes.self (Ex2.mk ⟨x, du, hx, trivial, rfl⟩) | (rename_i xa hxa; exact Goes.self (Ex2.mk ⟨xa, x, hxa, hx, rfl⟩))))); (all_goals (fail_if_success (with_reducible first | show Goes _ _ _ _ | show (∃ _, unr _ _ _ _ _ _))))))) | ((with_reducible first | refine Cb.mk ?_ | refine Lz.mk ?_ | refine JoinT.left ?_ | refine AllT.mk (fun x hx => ?_)); cbv) | ((with_reducible refine Ob.mk (fun _ => ?_) ?_); rotate_left 1) | (with_reducible first | refine Mg.mk (Exists.intro ?_ (And.intro ?_ ?_)) | rfl | refine Fin.mk ?_ | exact True.intro | refine And.intro ?_ ?_)))
  all_goals first | (with_reducible show (∃ _, unr _ _ _ _ _ _); skip) | (with_reducible show Goes _ _ _ _; skip) | (with_reducible show JoinT _ _ _ _ _ _; skip) | (first | ((try dsimp only [Shp.D, Shp.Ds, Shp.dflt] at *); simp only [vem, veq, ne_eq, cmpI, arI, dvI, shI, SV.den, obLt, elemAt, obApp, partL, obPart, lowD, highD, mxOk, convL_self, zerosB, List.length_replicate, vln] at *; (try dsimp only [Shp.D, Shp.Ds, Shp.dflt, Shp.dflts] at *); done) | ((try dsimp only [Shp.D, Shp.Ds, Shp.dflt] at *); simp only [vem, veq, ne_eq, cmpI, arI, dvI, shI, SV.den, obLt, elemAt, obApp, partL, obPart, lowD, highD, mxOk, convL_self, zerosB, List.length_replicate, vln] at *; (try dsimp only [Shp.D, Shp.Ds, Shp.dflt, Shp.dflts] at *); unfold knownF; rw [eq_comm, decide_eq_true_iff]; omega) | ((try dsimp only [Shp.D, Shp.Ds, Shp.dflt] at *); simp only [vem, veq, ne_eq, cmpI, arI, dvI, shI, SV.den, obLt, elemAt, obApp, partL, obPart, lowD, highD, mxOk, convL_self, zerosB, List.length_replicate, vln] at *; (try dsimp only [Shp.D, Shp.Ds, Shp.dflt, Shp.dflts] at *); unfold knownF; rw [eq_comm, decide_eq_false_iff_not]; omega))
theorem rkn_fn : hasFn Try.prog 22 := ⟨_, Try.func22, by rfl, by rfl⟩
theorem rkn_sp {E : Env} (hE : E.ok) : SpecOk Try.prog E 22 knSp := by
  refine spec_of_vc (C := cnC) rkn_fn Try.func22 (by kernel_rfl) cnC_cx (fun x hl hx => ?_) hE
  obtain ⟨k, _⟩ := x
  cbv
  (repeat' (first | ((with_reducible refine And.intro (fun h => ?_) (fun h => ?_)) <;> (first | with_reducible exact (tf h (by assumption)).elim | with_reducible exact (tf (by assumption) h).elim | cbv)) | ((with_reducible show JoinT (fun s K => vc _ (Code.region _ _ true) s K) _ _ _ _ _); (with_reducible apply JoinT.mg2); (focus (cbv; (repeat' (first | ((with_reducible refine And.intro (fun h => ?_) (fun h => ?_)) <;> (first | with_reducible exact (tf h (by assumption)).elim | with_reducible exact (tf (by assumption) h).elim | cbv)) | ((with_reducible first | refine Cb.mk ?_ | refine Lz.mk ?_ | refine JoinT.left ?_ | refine AllT.mk (fun x hx => ?_)); cbv) | ((with_reducible refine Ob.mk (fun _ => ?_) ?_); rotate_left 1) | (with_reducible first | refine Mg.mk (Exists.intro ?_ (And.intro ?_ ?_)) | rfl | refine Fin.mk ?_ | exact True.intro | refine And.intro ?_ ?_))); (all_goals (try (have du : Unit := (); have dv : Unit := (); first | exact Goes.self (Ex2.mk ⟨dv, du, trivial, trivial, rfl⟩) | exact Goes.self (Ex2.mk ⟨x, du, hx, trivial, rfl⟩) | (rename_i xa hxa; exact Goes.self (Ex2.mk ⟨xa, x, hxa, hx, rfl⟩))))); (all_goals (fail_if_success (with_reducible first | show Goes _ _ _ _ | show (∃ _, unr _ _ _ _ _ _))))))) | ((with_reducible first | refine Cb.mk ?_ | refine Lz.mk ?_ | refine JoinT.left ?_ | refine AllT.mk (fun x hx => ?_)); cbv) | ((with_reducible refine Ob.mk (fun _ => ?_) ?_); rotate_left 1) | (with_reducible first | refine Mg.mk (Exists.intro ?_ (And.intro ?_ ?_)) | rfl | refine Fin.mk ?_ | exact True.intro | refine And.intro ?_ ?_)))
  all_goals first | (with_reducible show (∃ _, unr _ _ _ _ _ _); skip) | (with_reducible show Goes _ _ _ _; skip) | (with_reducible show JoinT _ _ _ _ _ _; skip) | (first | ((try dsimp only [Shp.D, Shp.Ds, Shp.dflt] at *); simp only [vem, veq, ne_eq, cmpI, arI, dvI, shI, SV.den, obLt, elemAt, obApp, partL, obPart, lowD, highD, mxOk, convL_self, zerosB, List.length_replicate, vln] at *; (try dsimp only [Shp.D, Shp.Ds, Shp.dflt, Shp.dflts] at *); done) | ((try dsimp only [Shp.D, Shp.Ds, Shp.dflt] at *); simp only [vem, veq, ne_eq, cmpI, arI, dvI, shI, SV.den, obLt, elemAt, obApp, partL, obPart, lowD, highD, mxOk, convL_self, zerosB, List.length_replicate, vln] at *; (try dsimp only [Shp.D, Shp.Ds, Shp.dflt, Shp.dflts] at *); unfold knownF; rw [eq_comm, decide_eq_true_iff]; omega) | ((try dsimp only [Shp.D, Shp.Ds, Shp.dflt] at *); simp only [vem, veq, ne_eq, cmpI, arI, dvI, shI, SV.den, obLt, elemAt, obApp, partL, obPart, lowD, highD, mxOk, convL_self, zerosB, List.length_replicate, vln] at *; (try dsimp only [Shp.D, Shp.Ds, Shp.dflt, Shp.dflts] at *); unfold knownF; rw [eq_comm, decide_eq_false_iff_not]; omega) | ((try dsimp only [Shp.D, Shp.Ds, Shp.dflt] at *); simp only [vem, veq, ne_eq, cmpI, arI, dvI, shI, SV.den, obLt, elemAt, obApp, partL, obPart, lowD, highD, mxOk, convL_self, zerosB, List.length_replicate, vln] at *; (try dsimp only [Shp.D, Shp.Ds, Shp.dflt, Shp.dflts] at *); exact kn53 (by omega) (by omega)))
/-! Draw. -/
structure MidG (r : RawT) : Prop where
  k0 : 1 ≤ r.1
  k1 : r.1 ≤ 255
  ll : lastF r.1 = false
  b : r.2.2.1.length ≤ 8
structure DrG (l : List RawT) (last : Int) : Prop where
  parts : ∃ m t, l = m ++ t ∧ (∀ r ∈ m, MidG r) ∧ m.length ≤ 4 ∧ ((t = [] ∧ last = 0) ∨ ∃ r : RawT, t = [r] ∧ (r.1 = 46 ∨ r.1 = 53) ∧ r.2.1 = false ∧ r.2.2.1.length ≤ 8 ∧ 0 ≤ last ∧ last ≤ 255)
theorem DrG.len {l : List RawT} {last : Int} (h : DrG l last) : l.length ≤ 5 := by
  obtain ⟨m, t, rfl, h1, h2, h3⟩ := h.parts
  rw [List.length_append]
  rcases h3 with ⟨rfl, _⟩ | ⟨r, rfl, _⟩
  · simp; omega
  · simp; omega
theorem kind7 {v : Int} (h0 : 0 ≤ v) (h1 : v < 7) : 1 ≤ selI [33, 40, 41, 99, 200, 1, 255] v ∧ selI [33, 40, 41, 99, 200, 1, 255] v ≤ 255 ∧ lastF (selI [33, 40, 41, 99, 200, 1, 255] v) = false := by
  rcases (by omega : v = 0 ∨ v = 1 ∨ v = 2 ∨ v = 3 ∨ v = 4 ∨ v = 5 ∨ v = 6) with rfl | rfl | rfl | rfl | rfl | rfl | rfl <;> exact ⟨by decide, by decide, by decide⟩
theorem kind2 {v : Int} (h0 : 0 ≤ v) (h1 : v < 2) : selI [46, 53] v = 46 ∨ selI [46, 53] v = 53 := by
  rcases (by omega : v = 0 ∨ v = 1) with rfl | rfl
  · exact .inl rfl
  · exact .inr rfl
theorem mid_ok {v n : Int} {c : Bool} {b : List UInt8} {P Q : Prop} (hv : (0 ≤ v ∧ v < 7) ∧ P) (hb : (b.length : Int) = max 0 n ∧ Q) (hn : 0 ≤ n ∧ n < 7) : MidG (selI [33, 40, 41, 99, 200, 1, 255] v, c, b, ()) := by
  obtain ⟨k0, k1, k2⟩ := kind7 hv.1.1 hv.1.2
  have := hb.1
  exact ⟨k0, k1, k2, by show b.length ≤ 8; omega⟩
theorem dr_end1 {y : List RawT} (h : ∀ s ∈ y, MidG s) (hl : (y.length : Int) ≤ 4) : DrG y 0 := ⟨y, [], by simp, h, by omega, .inl ⟨rfl, rfl⟩⟩
theorem dr_end2 {y : List RawT} {v n last : Int} {b : List UInt8} {P Q : Prop} (h : ∀ s ∈ y, MidG s) (hl : (y.length : Int) ≤ 4) (hv : (0 ≤ v ∧ v < 2) ∧ P) (hb : (b.length : Int) = max 0 n ∧ Q) (hn : 0 ≤ n ∧ n < 9) (hz : 0 ≤ last ∧ last < 256) : DrG (y ++ [(selI [46, 53] v, false, b, ())]) last := by
  have := hb.1
  exact ⟨y, _, rfl, h, by omega, .inr ⟨_, rfl, kind2 hv.1.1 hv.1.2, rfl, by show b.length ≤ 8; omega, hz.1, by omega⟩⟩
abbrev nextS : Spec := drSpec 69 [.int .i64] [.int .i64] [] nextPre nextPost
abbrev bytesS : Spec := drSpec 69 [.int .i64] [.sl .byte] [.own 5] (fun x => x.1 ≤ 1048576) (fun x y => (y.1.length : Int) = max 0 x.1)
abbrev chdS : Spec := drSpec 69 [] [.sl rawE, .int .i64] [.sh] (fun _ => True) (fun _ y => DrG y.1 y.2.1)
def chdC_t : SpecT := nd0 37 (lf0 15 (nextS)) (lf0 37 (bytesS))
def chdC : Cx := ⟨tt, qt, bt, st, chdC_t, 0, 1000000000000000, fun _ => none, false, CxE.no⟩
theorem chdC_si {E : Env} (h : E.ok) : SpecsOk Try.prog E (CxE.no) chdC_t (fun _ => none) := ⟨(nd0_ok (lf0_ok (next_sp h)) (lf0_ok (bytes_sp h))), noI_ok _ _ _⟩
theorem chdC_x {E : Env} (h : E.ok) : CxEOk Try.prog E (CxE.no) := CxE.no_ok _ _
theorem chdC_cx (E : Env) (h : E.ok) (h1 : E.lo = 0) (h2 : E.hi = 1000000000000000) : Cx.ok chdC Try.prog E := ⟨tt_ok, qt_ok, bt_ok, chdC_si h, h, h1, h2, mixed_ok, chdC_x h⟩
theorem chdC_from (lo hi : Nat) (E : Env) (h : E.ok) (h1 : E.lo = lo) (h2 : E.hi = hi) : Cx.ok (Cx.from chdC lo hi) Try.prog E := ⟨tt_ok, qt_ok, bt_ok, chdC_si h, h, h1, h2, mixed_ok, chdC_x h⟩
theorem chd_fn : hasFn Try.prog 14 := ⟨_, Try.func14, by rfl, by rfl⟩
theorem chd_sp {E : Env} (hE : E.ok) : SpecOk Try.prog E 14 chdS := by
  refine spec_of_vcD (C := chdC) chd_fn Try.func14 (by kernel_rfl) chdC_cx (fun x hl hx => ?_) hE
  obtain ⟨⟩ := x
  cbv
  (repeat' (first | ((with_reducible refine And.intro (fun h => ?_) (fun h => ?_)) <;> (first | with_reducible exact (tf h (by assumption)).elim | with_reducible exact (tf (by assumption) h).elim | cbv)) | ((with_reducible show JoinT (fun s K => vc _ (Code.region _ _ true) s K) _ _ _ _ _); (with_reducible apply JoinT.mg2); (focus (cbv; (repeat' (first | ((with_reducible refine And.intro (fun h => ?_) (fun h => ?_)) <;> (first | with_reducible exact (tf h (by assumption)).elim | with_reducible exact (tf (by assumption) h).elim | cbv)) | ((with_reducible first | refine Cb.mk ?_ | refine Lz.mk ?_ | refine JoinT.left ?_ | refine AllT.mk (fun x hx => ?_)); cbv) | ((with_reducible refine Ob.mk (fun _ => ?_) ?_); rotate_left 1) | (with_reducible first | refine Mg.mk (Exists.intro ?_ (And.intro ?_ ?_)) | rfl | refine Fin.mk ?_ | exact True.intro | refine And.intro ?_ ?_))); (all_goals (try (have du : Unit := (); have dv : Unit := (); first | exact Goes.self (Ex2.mk ⟨dv, du, trivial, trivial, rfl⟩) | exact Goes.self (Ex2.mk ⟨x, du, hx, trivial, rfl⟩) | (rename_i xa hxa; exact Goes.self (Ex2.mk ⟨xa, x, hxa, hx, rfl⟩))))); (all_goals (fail_if_success (with_reducible first | show Goes _ _ _ _ | show (∃ _, unr _ _ _ _ _ _))))))) | ((with_reducible first | refine Cb.mk ?_ | refine Lz.mk ?_ | refine JoinT.left ?_ | refine AllT.mk (fun x hx => ?_)); cbv) | ((with_reducible refine Ob.mk (fun _ => ?_) ?_); rotate_left 1) | (with_reducible first | refine Mg.mk (Exists.intro ?_ (And.intro ?_ ?_)) | rfl | refine Fin.mk ?_ | exact True.intro | refine And.intro ?_ ?_)))
  all_goals first | (with_reducible show (∃ _, unr _ _ _ _ _ _); skip) | (with_reducible show Goes _ _ _ _; skip) | (with_reducible show JoinT _ _ _ _ _ _; skip) | (first | ((try dsimp only [Shp.D, Shp.Ds, Shp.dflt] at *); simp only [vem, veq, ne_eq, cmpI, arI, dvI, shI, SV.den, obLt, elemAt, obApp, partL, obPart, lowD, highD, mxOk, convL_self, zerosB, List.length_replicate, vln] at *; (try dsimp only [Shp.D, Shp.Ds, Shp.dflt, Shp.dflts] at *); done) | ((try dsimp only [Shp.D, Shp.Ds, Shp.dflt] at *); simp only [vem, veq, ne_eq, cmpI, arI, dvI, shI, SV.den, obLt, elemAt, obApp, partL, obPart, lowD, highD, mxOk, convL_self, zerosB, List.length_replicate, vln] at *; (try dsimp only [Shp.D, Shp.Ds, Shp.dflt, Shp.dflts] at *); omega))
  with_reducible refine loop_hv [(4, 900, 32, rawE)] (6 :: rangeN 9 40) [] [900] (fun z b t y => 0 ≤ z 5 ∧ ((y 900 rawE).length : Int) + z 5 ≤ 4 ∧ ∀ s ∈ y 900 rawE, MidG s) (fun z b t y => (z 5).toNat) (by cbv) (by cbv) ?_ ?_ (fun z1 b1 t1 u1 y1 R1 hP1 hR1 => ?_)
  · refine EndOk.mk (by cbv) (by cbv) (by cbv; repeat' (first | exact True.intro | exact rfl | with_reducible refine And.intro ?_ ?_)) (by cbv; repeat' (first | exact True.intro | exact rfl | with_reducible refine And.intro ?_ ?_)) (by cbv; repeat' (first | exact True.intro | exact rfl | with_reducible refine And.intro ?_ ?_))
  · intro zq bq tq yq hUq
    have q5 := hUq.z 5
    cbv at q5
    replace q5 := q5.eq
    simp only [atI, vem, veq, ne_eq, cmpI, arI, dvI, shI, SV.den] at q5
    have qy900 := hUq.y 900 (rawE)
    cbv at qy900
    replace qy900 := qy900.eq
    simp only [atY, convL_self, vem, veq, ne_eq, cmpI, arI, dvI, shI, SV.den] at qy900
    clear hUq
    try dsimp only [Shp.D, Shp.Ds, Shp.dflt] at *
    try simp only [vem, veq, ne_eq, cmpI, arI, dvI, shI, SV.den, convL_self] at *
    rw [← qy900]
    simp only [List.length_nil]
    exact ⟨by omega, by omega, fun s hs => by cases hs⟩
  obtain ⟨p1, p2, p3⟩ := hP1
  cbv
  (repeat' (first | ((with_reducible refine And.intro (fun h => ?_) (fun h => ?_)) <;> (first | with_reducible exact (tf h (by assumption)).elim | with_reducible exact (tf (by assumption) h).elim | cbv)) | ((with_reducible show JoinT (fun s K => vc _ (Code.region _ _ true) s K) _ _ _ _ _); (with_reducible apply JoinT.mg2); (focus (cbv; (repeat' (first | ((with_reducible refine And.intro (fun h => ?_) (fun h => ?_)) <;> (first | with_reducible exact (tf h (by assumption)).elim | with_reducible exact (tf (by assumption) h).elim | cbv)) | ((with_reducible first | refine Cb.mk ?_ | refine Lz.mk ?_ | refine JoinT.left ?_ | refine AllT.mk (fun x hx => ?_)); cbv) | ((with_reducible refine Ob.mk (fun _ => ?_) ?_); rotate_left 1) | (with_reducible first | refine Mg.mk (Exists.intro ?_ (And.intro ?_ ?_)) | rfl | refine Fin.mk ?_ | exact True.intro | refine And.intro ?_ ?_))); (all_goals (try (have du : Unit := (); have dv : Unit := (); first | exact Goes.self (Ex2.mk ⟨dv, du, trivial, trivial, rfl⟩) | exact Goes.self (Ex2.mk ⟨x, du, hx, trivial, rfl⟩) | (rename_i xa hxa; exact Goes.self (Ex2.mk ⟨xa, x, hxa, hx, rfl⟩))))); (all_goals (fail_if_success (with_reducible first | show Goes _ _ _ _ | show (∃ _, unr _ _ _ _ _ _))))))) | ((with_reducible first | refine Cb.mk ?_ | refine Lz.mk ?_ | refine JoinT.left ?_ | refine AllT.mk (fun x hx => ?_)); cbv) | ((with_reducible refine Ob.mk (fun _ => ?_) ?_); rotate_left 1) | (with_reducible first | refine Mg.mk (Exists.intro ?_ (And.intro ?_ ?_)) | rfl | refine Fin.mk ?_ | exact True.intro | refine And.intro ?_ ?_)))
  all_goals first | (with_reducible show (∃ _, unr _ _ _ _ _ _); skip) | (with_reducible show Goes _ _ _ _; skip) | (with_reducible show JoinT _ _ _ _ _ _; skip) | (first | ((try dsimp only [Shp.D, Shp.Ds, Shp.dflt] at *); simp only [vem, veq, ne_eq, cmpI, arI, dvI, shI, SV.den, obLt, elemAt, obApp, partL, obPart, lowD, highD, mxOk, convL_self, zerosB, List.length_replicate, vln] at *; (try dsimp only [Shp.D, Shp.Ds, Shp.dflt, Shp.dflts] at *); done) | ((try dsimp only [Shp.D, Shp.Ds, Shp.dflt] at *); simp only [vem, veq, ne_eq, cmpI, arI, dvI, shI, SV.den, obLt, elemAt, obApp, partL, obPart, lowD, highD, mxOk, convL_self, zerosB, List.length_replicate, vln] at *; (try dsimp only [Shp.D, Shp.Ds, Shp.dflt, Shp.dflts] at *); omega) | ((try dsimp only [Shp.D, Shp.Ds, Shp.dflt] at *); simp only [vem, veq, ne_eq, cmpI, arI, dvI, shI, SV.den, obLt, elemAt, obApp, partL, obPart, lowD, highD, mxOk, convL_self, zerosB, List.length_replicate, vln] at *; (try dsimp only [Shp.D, Shp.Ds, Shp.dflt, Shp.dflts] at *); exact dr_end1 p3 (by omega)) | ((try dsimp only [Shp.D, Shp.Ds, Shp.dflt] at *); simp only [vem, veq, ne_eq, cmpI, arI, dvI, shI, SV.den, obLt, elemAt, obApp, partL, obPart, lowD, highD, mxOk, convL_self, zerosB, List.length_replicate, vln] at *; (try dsimp only [Shp.D, Shp.Ds, Shp.dflt, Shp.dflts] at *); exact dr_end2 p3 (by omega) (by assumption) (by assumption) (by omega) (by omega)) | (try ((try dsimp only [Shp.D, Shp.Ds, Shp.dflt] at *); simp only [vem, veq, ne_eq, cmpI, arI, dvI, shI, SV.den, obLt, elemAt, obApp, partL, obPart, lowD, highD, mxOk, convL_self, zerosB, List.length_replicate, vln] at *; (try dsimp only [Shp.D, Shp.Ds, Shp.dflt, Shp.dflts] at *))))
  · with_reducible refine hR1 _ ?_ (fun zq bq tq yq hUq => ?_)
    · refine EndOk.mk (by cbv) (by cbv) (by cbv; repeat' (first | exact True.intro | exact rfl | with_reducible refine And.intro ?_ ?_)) (by cbv; repeat' (first | exact True.intro | exact rfl | with_reducible refine And.intro ?_ ?_)) (by cbv; repeat' (first | exact True.intro | exact rfl | with_reducible refine And.intro ?_ ?_))
    have q5 := hUq.z 5
    cbv at q5
    replace q5 := q5.eq
    simp only [atI, vem, veq, ne_eq, cmpI, arI, dvI, shI, SV.den] at q5
    have qy900 := hUq.y 900 (rawE)
    cbv at qy900
    replace qy900 := qy900.eq
    simp only [atY, convL_self, vem, veq, ne_eq, cmpI, arI, dvI, shI, SV.den] at qy900
    clear hUq hR1
    try dsimp only [Shp.D, Shp.Ds, Shp.dflt] at *
    try simp only [vem, veq, ne_eq, cmpI, arI, dvI, shI, SV.den, elemAt, convL_self] at *
    try dsimp only [Shp.D, Shp.Ds, Shp.dflt, Shp.dflts] at *
    rw [← qy900]
    simp only [List.length_append, List.length_cons, List.length_nil]
    refine ⟨⟨by omega, by omega, fun s hs => ?_⟩, by omega⟩
    rcases List.mem_append.1 hs with hs | hs
    · exact p3 s hs
    · rw [List.mem_singleton] at hs
      rw [hs]
      exact mid_ok (by assumption) hx (by omega)
/-! The sanity check. -/
abbrev eqlSp : Spec := fnSpec [.sl .byte, .sl .byte] [.bool] [] (fun _ => True) fun x y => y.1 = decide (x.1 = x.2.1)
theorem aw3_c : chainF [(40, false, [toB 1, toB 2], ())] 0 = (40, [toB 0, toB 0, toB 0, toB 6, toB 1, toB 2], 0) := by kernel_rfl
theorem aw3_1 {a c : Int} {b : List UInt8} {P : Prop} (h : (a, b, c) = chainF [(40, false, [toB 1, toB 2], ())] 0 ∧ P) : a = 40 ∧ b = [toB 0, toB 0, toB 0, toB 6, toB 1, toB 2] ∧ c = 0 := by
  have := h.1
  rw [aw3_c] at this
  simpa only [Prod.mk.injEq] using this
def aw3C_t : SpecT := nd0 19 (lf0 17 (cbuSp)) (lf0 19 (eqlSp))
def aw3C : Cx := ⟨tt, qt, bt, st, aw3C_t, 0, 1000000000000000, fun _ => none, false, CxE.no⟩
theorem aw3C_si {E : Env} (h : E.ok) : SpecsOk Try.prog E (CxE.no) aw3C_t (fun _ => none) := ⟨(nd0_ok (lf0_ok (cbu_sp h)) (lf0_ok (reql_sp h))), noI_ok _ _ _⟩
theorem aw3C_x {E : Env} (h : E.ok) : CxEOk Try.prog E (CxE.no) := CxE.no_ok _ _
theorem aw3C_cx (E : Env) (h : E.ok) (h1 : E.lo = 0) (h2 : E.hi = 1000000000000000) : Cx.ok aw3C Try.prog E := ⟨tt_ok, qt_ok, bt_ok, aw3C_si h, h, h1, h2, mixed_ok, aw3C_x h⟩
theorem aw3C_from (lo hi : Nat) (E : Env) (h : E.ok) (h1 : E.lo = lo) (h2 : E.hi = hi) : Cx.ok (Cx.from aw3C lo hi) Try.prog E := ⟨tt_ok, qt_ok, bt_ok, aw3C_si h, h, h1, h2, mixed_ok, aw3C_x h⟩
theorem aw3_fn : hasFn Try.prog 12 := ⟨_, Try.func12, by rfl, by rfl⟩
abbrev aw3Sp : Spec := fnSpec [] [.bool] [] (fun _ => True) fun _ y => y.1 = true
theorem aw3_sp {E : Env} (hE : E.ok) : SpecOk Try.prog E 12 aw3Sp := by
  refine spec_of_vc (C := aw3C) aw3_fn Try.func12 (by kernel_rfl) aw3C_cx (fun x hl hx => ?_) hE
  obtain ⟨⟩ := x
  cbv
  (repeat' (first | ((with_reducible refine And.intro (fun h => ?_) (fun h => ?_)) <;> (first | with_reducible exact (tf h (by assumption)).elim | with_reducible exact (tf (by assumption) h).elim | cbv)) | ((with_reducible show JoinT (fun s K => vc _ (Code.region _ _ true) s K) _ _ _ _ _); (with_reducible apply JoinT.mg2); (focus (cbv; (repeat' (first | ((with_reducible refine And.intro (fun h => ?_) (fun h => ?_)) <;> (first | with_reducible exact (tf h (by assumption)).elim | with_reducible exact (tf (by assumption) h).elim | cbv)) | ((with_reducible first | refine Cb.mk ?_ | refine Lz.mk ?_ | refine JoinT.left ?_ | refine AllT.mk (fun x hx => ?_)); cbv) | ((with_reducible refine Ob.mk (fun _ => ?_) ?_); rotate_left 1) | (with_reducible first | refine Mg.mk (Exists.intro ?_ (And.intro ?_ ?_)) | rfl | refine Fin.mk ?_ | exact True.intro | refine And.intro ?_ ?_))); (all_goals (try (have du : Unit := (); have dv : Unit := (); first | exact Goes.self (Ex2.mk ⟨dv, du, trivial, trivial, rfl⟩) | exact Goes.self (Ex2.mk ⟨x, du, hx, trivial, rfl⟩) | (rename_i xa hxa; exact Goes.self (Ex2.mk ⟨xa, x, hxa, hx, rfl⟩))))); (all_goals (fail_if_success (with_reducible first | show Goes _ _ _ _ | show (∃ _, unr _ _ _ _ _ _))))))) | ((with_reducible first | refine Cb.mk ?_ | refine Lz.mk ?_ | refine JoinT.left ?_ | refine AllT.mk (fun x hx => ?_)); cbv) | ((with_reducible refine Ob.mk (fun _ => ?_) ?_); rotate_left 1) | (with_reducible first | refine Mg.mk (Exists.intro ?_ (And.intro ?_ ?_)) | rfl | refine Fin.mk ?_ | exact True.intro | refine And.intro ?_ ?_)))
  all_goals first | (with_reducible show (∃ _, unr _ _ _ _ _ _); skip) | (with_reducible show Goes _ _ _ _; skip) | (with_reducible show JoinT _ _ _ _ _ _; skip) | (first | ((try dsimp only [Shp.D, Shp.Ds, Shp.dflt] at *); simp only [vem, veq, ne_eq, cmpI, arI, dvI, shI, SV.den, obLt, elemAt, obApp, partL, obPart, lowD, highD, mxOk, convL_self, zerosB, List.length_replicate, vln] at *; (try dsimp only [Shp.D, Shp.Ds, Shp.dflt, Shp.dflts] at *); done) | ((try dsimp only [Shp.D, Shp.Ds, Shp.dflt] at *); simp only [vem, veq, ne_eq, cmpI, arI, dvI, shI, SV.den, obLt, elemAt, obApp, partL, obPart, lowD, highD, mxOk, convL_self, zerosB, List.length_replicate, vln] at *; (try dsimp only [Shp.D, Shp.Ds, Shp.dflt, Shp.dflts] at *); exact absurd (aw3_1 (by assumption)).1 h) | ((try dsimp only [Shp.D, Shp.Ds, Shp.dflt] at *); simp only [vem, veq, ne_eq, cmpI, arI, dvI, shI, SV.den, obLt, elemAt, obApp, partL, obPart, lowD, highD, mxOk, convL_self, zerosB, List.length_replicate, vln] at *; (try dsimp only [Shp.D, Shp.Ds, Shp.dflt, Shp.dflts] at *); exact absurd (aw3_1 (by assumption)).2.2 h) | ((try dsimp only [Shp.D, Shp.Ds, Shp.dflt] at *); simp only [vem, veq, ne_eq, cmpI, arI, dvI, shI, SV.den, obLt, elemAt, obApp, partL, obPart, lowD, highD, mxOk, convL_self, zerosB, List.length_replicate, vln] at *; (try dsimp only [Shp.D, Shp.Ds, Shp.dflt, Shp.dflts] at *); rw [hx.1]; exact decide_eq_true (aw3_1 (by assumption)).2.1))
end Go.Proofs.Ytfcpbeolhlkmnaa.V
