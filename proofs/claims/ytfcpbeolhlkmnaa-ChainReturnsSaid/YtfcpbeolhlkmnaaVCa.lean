/- Contracts: chains of payloads, what is wrong with them. -/
import Derived.Test.YtfcpbeolhlkmnaaVRb
import Derived.Test.YtfcpbeolhlkmnaaVf
set_option linter.unusedVariables false
set_option linter.unusedSimpArgs false
namespace Go.Proofs.Ytfcpbeolhlkmnaa.V
open Go.RowKit
set_option maxHeartbeats 8000000
set_option maxRecDepth 100000
/-- A raw payload: type, critical, body. -/
abbrev rawE : Shp := .st [.int .i64, .bool, .sl .byte]
abbrev RawT : Type := Int × Bool × List UInt8 × Unit
abbrev raw0 : RawT := (0, false, [], ())
def lastF (k : Int) : Bool := decide (k = 46) || decide (k = 53)
def chkL : List RawT → Int
  | [] => 0
  | r :: l => if r.1 < 1 ∨ 255 < r.1 then 5 else if 65531 < (r.2.2.1.length : Int) then 11 else if lastF r.1 = true ∧ l ≠ [] then 7 else chkL l
theorem chkL_drop (l : List RawT) (k : Nat) (h : k < l.length) : chkL (l.drop k) = if (l.getD k raw0).1 < 1 ∨ 255 < (l.getD k raw0).1 then 5 else if 65531 < ((l.getD k raw0).2.2.1.length : Int) then 11 else if lastF (l.getD k raw0).1 = true ∧ k + 1 < l.length then 7 else chkL (l.drop (k + 1)) := by
  rw [List.drop_eq_getElem_cons h, chkL, List.getD_eq_getElem?_getD, List.getElem?_eq_getElem h]
  have e : l.drop (k + 1) ≠ [] ↔ k + 1 < l.length := by
    constructor
    · intro h1
      rcases Nat.lt_or_ge (k + 1) l.length with h2 | h2
      · exact h2
      · exact absurd (List.drop_eq_nil_of_le h2) h1
    · intro h1 h2
      have := congrArg List.length h2
      rw [List.length_drop, List.length_nil] at this
      omega
  simp only [e]
  rfl
theorem chkL_nil (l : List RawT) (k : Nat) (h : l.length ≤ k) : chkL (l.drop k) = 0 := by
  rw [List.drop_eq_nil_of_le h, chkL]
def checkF (l : List RawT) (ins : Int) : Int :=
  if 40 < l.length then 10 else if chkL l ≠ 0 then chkL l else if ins < 0 ∨ 255 < ins then 5 else if ins ≠ 0 ∧ (l.length = 0 ∨ lastF (l.getD (l.length - 1) raw0).1 = false) then 7 else 0
abbrev lastFn : Spec := fnFn [.int .i64] [.bool] (fun _ => True) fun x => (lastF x.1, ())
def cnC_t : SpecT := fun _ => none
def cnC : Cx := ⟨tt, qt, bt, st, cnC_t, 0, 1000000000000000, fun _ => none, false, CxE.no⟩
theorem cnC_si {E : Env} (h : E.ok) : SpecsOk Try.prog E (CxE.no) cnC_t (fun _ => none) := ⟨(fun t f h => by cases h), noI_ok _ _ _⟩
theorem cnC_x {E : Env} (h : E.ok) : CxEOk Try.prog E (CxE.no) := CxE.no_ok _ _
theorem cnC_cx (E : Env) (h : E.ok) (h1 : E.lo = 0) (h2 : E.hi = 1000000000000000) : Cx.ok cnC Try.prog E := ⟨tt_ok, qt_ok, bt_ok, cnC_si h, h, h1, h2, mixed_ok, cnC_x h⟩
theorem cnC_from (lo hi : Nat) (E : Env) (h : E.ok) (h1 : E.lo = lo) (h2 : E.hi = hi) : Cx.ok (Cx.from cnC lo hi) Try.prog E := ⟨tt_ok, qt_ok, bt_ok, cnC_si h, h, h1, h2, mixed_ok, cnC_x h⟩
theorem clast_fn : hasFn Try.prog 48 := ⟨_, Try.func48, by rfl, by rfl⟩
theorem clast_sp0 {E : Env} (hE : E.ok) : SpecOk Try.prog E 48 (fnSpec [.int .i64] [.bool] [] (fun _ => True) fun x y => y.1 = lastF x.1) := by
  refine spec_of_vc (C := cnC) clast_fn Try.func48 (by kernel_rfl) cnC_cx (fun x hl hx => ?_) hE
  obtain ⟨k, _⟩ := x
  cbv
  (repeat' (first | ((with_reducible refine And.intro (fun h => ?_) (fun h => ?_)) <;> (first | with_reducible exact (tf h (by assumption)).elim | with_reducible exact (tf (by assumption) h).elim | cbv)) | ((with_reducible first | refine Cb.mk ?_ | refine Lz.mk ?_ | refine JoinT.left ?_ | refine AllT.mk (fun x hx => ?_)); cbv) | ((with_reducible refine Ob.mk (fun _ => ?_) ?_); rotate_left 1) | (with_reducible first | refine Mg.mk (Exists.intro ?_ (And.intro ?_ ?_)) | rfl | refine Fin.mk ?_ | exact True.intro | refine And.intro ?_ ?_)))
  all_goals first | (with_reducible show (∃ _, unr _ _ _ _ _ _); skip) | (with_reducible show Goes _ _ _ _; skip) | (with_reducible show JoinT _ _ _ _ _ _; skip) | (first | ((try dsimp only [Shp.D, Shp.Ds, Shp.dflt] at *); simp only [vem, veq, ne_eq, cmpI, arI, dvI, shI, SV.den, obLt, elemAt, obApp, partL, obPart, lowD, highD, mxOk, convL_self, zerosB, List.length_replicate, vln] at *; (try dsimp only [Shp.D, Shp.Ds, Shp.dflt, Shp.dflts] at *); done) | ((try dsimp only [Shp.D, Shp.Ds, Shp.dflt] at *); simp only [vem, veq, ne_eq, cmpI, arI, dvI, shI, SV.den, obLt, elemAt, obApp, partL, obPart, lowD, highD, mxOk, convL_self, zerosB, List.length_replicate, vln] at *; (try dsimp only [Shp.D, Shp.Ds, Shp.dflt, Shp.dflts] at *); unfold lastF; simp_all; done) | ((try dsimp only [Shp.D, Shp.Ds, Shp.dflt] at *); simp only [vem, veq, ne_eq, cmpI, arI, dvI, shI, SV.den, obLt, elemAt, obApp, partL, obPart, lowD, highD, mxOk, convL_self, zerosB, List.length_replicate, vln] at *; (try dsimp only [Shp.D, Shp.Ds, Shp.dflt, Shp.dflts] at *); unfold lastF; simp [h]; done) | ((try dsimp only [Shp.D, Shp.Ds, Shp.dflt] at *); simp only [vem, veq, ne_eq, cmpI, arI, dvI, shI, SV.den, obLt, elemAt, obApp, partL, obPart, lowD, highD, mxOk, convL_self, zerosB, List.length_replicate, vln] at *; (try dsimp only [Shp.D, Shp.Ds, Shp.dflt, Shp.dflts] at *); unfold lastF; simp only [h, decide_false, Bool.false_or]; rfl))
theorem clast_sp {E : Env} (hE : E.ok) : SpecOk Try.prog E 48 lastFn := fnFn_of (clast_sp0 hE) fun (x : Shp.Ds [.int .i64]) (y : Shp.Ds [.bool]) h => by rw [← h]
theorem rlast_fn : hasFn Try.prog 41 := ⟨_, Try.func41, by rfl, by rfl⟩
theorem rlast_sp0 {E : Env} (hE : E.ok) : SpecOk Try.prog E 41 (fnSpec [.int .i64] [.bool] [] (fun _ => True) fun x y => y.1 = lastF x.1) := by
  refine spec_of_vc (C := cnC) rlast_fn Try.func41 (by kernel_rfl) cnC_cx (fun x hl hx => ?_) hE
  obtain ⟨k, _⟩ := x
  cbv
  (repeat' (first | ((with_reducible refine And.intro (fun h => ?_) (fun h => ?_)) <;> (first | with_reducible exact (tf h (by assumption)).elim | with_reducible exact (tf (by assumption) h).elim | cbv)) | ((with_reducible first | refine Cb.mk ?_ | refine Lz.mk ?_ | refine JoinT.left ?_ | refine AllT.mk (fun x hx => ?_)); cbv) | ((with_reducible refine Ob.mk (fun _ => ?_) ?_); rotate_left 1) | (with_reducible first | refine Mg.mk (Exists.intro ?_ (And.intro ?_ ?_)) | rfl | refine Fin.mk ?_ | exact True.intro | refine And.intro ?_ ?_)))
  all_goals first | (with_reducible show (∃ _, unr _ _ _ _ _ _); skip) | (with_reducible show Goes _ _ _ _; skip) | (with_reducible show JoinT _ _ _ _ _ _; skip) | (first | ((try dsimp only [Shp.D, Shp.Ds, Shp.dflt] at *); simp only [vem, veq, ne_eq, cmpI, arI, dvI, shI, SV.den, obLt, elemAt, obApp, partL, obPart, lowD, highD, mxOk, convL_self, zerosB, List.length_replicate, vln] at *; (try dsimp only [Shp.D, Shp.Ds, Shp.dflt, Shp.dflts] at *); done) | ((try dsimp only [Shp.D, Shp.Ds, Shp.dflt] at *); simp only [vem, veq, ne_eq, cmpI, arI, dvI, shI, SV.den, obLt, elemAt, obApp, partL, obPart, lowD, highD, mxOk, convL_self, zerosB, List.length_replicate, vln] at *; (try dsimp only [Shp.D, Shp.Ds, Shp.dflt, Shp.dflts] at *); unfold lastF; simp_all; done) | ((try dsimp only [Shp.D, Shp.Ds, Shp.dflt] at *); simp only [vem, veq, ne_eq, cmpI, arI, dvI, shI, SV.den, obLt, elemAt, obApp, partL, obPart, lowD, highD, mxOk, convL_self, zerosB, List.length_replicate, vln] at *; (try dsimp only [Shp.D, Shp.Ds, Shp.dflt, Shp.dflts] at *); unfold lastF; simp [h]; done) | ((try dsimp only [Shp.D, Shp.Ds, Shp.dflt] at *); simp only [vem, veq, ne_eq, cmpI, arI, dvI, shI, SV.den, obLt, elemAt, obApp, partL, obPart, lowD, highD, mxOk, convL_self, zerosB, List.length_replicate, vln] at *; (try dsimp only [Shp.D, Shp.Ds, Shp.dflt, Shp.dflts] at *); unfold lastF; simp only [h, decide_false, Bool.false_or]; rfl))
theorem rlast_sp {E : Env} (hE : E.ok) : SpecOk Try.prog E 41 lastFn := fnFn_of (rlast_sp0 hE) fun (x : Shp.Ds [.int .i64]) (y : Shp.Ds [.bool]) h => by rw [← h]
/-! What is wrong. -/
theorem ck_c {l : List RawT} {ins c : Int} (h : (l.length : Int) ≤ 40) (hc : chkL l = c) (h0 : c ≠ 0) : c = checkF l ins := by
  unfold checkF
  rw [if_neg (by omega), if_pos (by rw [hc]; exact h0), hc]
theorem ck_5 {l : List RawT} {ins k : Int} (h : (l.length : Int) ≤ 40) (p : chkL (l.drop k.toNat) = chkL l) (k0 : 0 ≤ k) (k1 : k < l.length) (hb : (l.getD k.toNat raw0).1 < 1 ∨ 255 < (l.getD k.toNat raw0).1) : 5 = checkF l ins :=
  ck_c h (by rw [← p, chkL_drop l _ (by omega), if_pos hb]) (by decide)
theorem ck_11 {l : List RawT} {ins k : Int} (h : (l.length : Int) ≤ 40) (p : chkL (l.drop k.toNat) = chkL l) (k0 : 0 ≤ k) (k1 : k < l.length) (ha : ¬ (l.getD k.toNat raw0).1 < 1) (hb : ¬ 255 < (l.getD k.toNat raw0).1) (hc : 65531 < ((l.getD k.toNat raw0).2.2.1.length : Int)) : 11 = checkF l ins :=
  ck_c h (by rw [← p, chkL_drop l _ (by omega), if_neg (by omega), if_pos hc]) (by decide)
theorem ck_7 {l : List RawT} {ins k : Int} (h : (l.length : Int) ≤ 40) (p : chkL (l.drop k.toNat) = chkL l) (k0 : 0 ≤ k) (k1 : k < l.length) (ha : ¬ (l.getD k.toNat raw0).1 < 1) (hb : ¬ 255 < (l.getD k.toNat raw0).1) (hc : ¬ 65531 < ((l.getD k.toNat raw0).2.2.1.length : Int)) (hd : lastF (l.getD k.toNat raw0).1 = true) (he : k + 1 < l.length) : 7 = checkF l ins :=
  ck_c h (by rw [← p, chkL_drop l _ (by omega), if_neg (by omega), if_neg hc, if_pos ⟨hd, by omega⟩]) (by decide)
theorem ck_go {l : List RawT} {k : Int} (p : chkL (l.drop k.toNat) = chkL l) (k0 : 0 ≤ k) (k1 : k < l.length) (ha : ¬ (l.getD k.toNat raw0).1 < 1) (hb : ¬ 255 < (l.getD k.toNat raw0).1) (hc : ¬ 65531 < ((l.getD k.toNat raw0).2.2.1.length : Int)) (hd : lastF (l.getD k.toNat raw0).1 = false ∨ ¬ k + 1 < l.length) {j : Int} (hj : j = k + 1) : chkL (l.drop j.toNat) = chkL l := by
  have e := chkL_drop l k.toNat (by omega)
  rw [p, if_neg (by omega), if_neg hc, if_neg (by rcases hd with hd | hd; rw [hd]; simp; omega)] at e
  rw [e, hj, show (k + 1).toNat = k.toNat + 1 by omega]
theorem ck_0 {l : List RawT} {k : Int} (p : chkL (l.drop k.toNat) = chkL l) (k1 : ¬ k < l.length) : chkL l = 0 := by
  rw [← p, chkL_nil l _ (by omega)]
theorem ck_e {l : List RawT} {ins k : Int} (h : (l.length : Int) ≤ 40) (p : chkL (l.drop k.toNat) = chkL l) (k1 : ¬ k < l.length) : checkF l ins = if ins < 0 ∨ 255 < ins then 5 else if ins ≠ 0 ∧ (l.length = 0 ∨ lastF (l.getD (l.length - 1) raw0).1 = false) then 7 else 0 := by
  unfold checkF
  rw [if_neg (by omega), if_neg (by rw [ck_0 p k1]; simp)]
theorem ck_e7 {l : List RawT} {ins k : Int} (h : (l.length : Int) ≤ 40) (p : chkL (l.drop k.toNat) = chkL l) (k1 : ¬ k < l.length) (i0 : ¬ ins < 0) (i1 : ¬ 255 < ins) (i2 : ¬ ins = 0) (hl : ¬ (l.length : Int) = 0) (hh : (!lastF (l.getD (((l.length : Int) - 1 + 9223372036854775808) % 18446744073709551616 - 9223372036854775808).toNat raw0).1) = true) : 7 = checkF l ins := by
  rw [show (((l.length : Int) - 1 + 9223372036854775808) % 18446744073709551616 - 9223372036854775808).toNat = l.length - 1 by omega] at hh
  rw [ck_e h p k1, if_neg (by omega), if_pos ⟨i2, .inr (by simpa using hh)⟩]
theorem ck_e0 {l : List RawT} {ins k : Int} (h : (l.length : Int) ≤ 40) (p : chkL (l.drop k.toNat) = chkL l) (k1 : ¬ k < l.length) (i0 : ¬ ins < 0) (i1 : ¬ 255 < ins) (hl : ¬ (l.length : Int) = 0) (hh : (!lastF (l.getD (((l.length : Int) - 1 + 9223372036854775808) % 18446744073709551616 - 9223372036854775808).toNat raw0).1) = false) : 0 = checkF l ins := by
  rw [show (((l.length : Int) - 1 + 9223372036854775808) % 18446744073709551616 - 9223372036854775808).toNat = l.length - 1 by omega] at hh
  rw [ck_e h p k1, if_neg (by omega), if_neg]
  rintro ⟨_, h1 | h1⟩
  · omega
  · rw [h1] at hh; cases hh
theorem ck_e00 {l : List RawT} {ins k : Int} (h : (l.length : Int) ≤ 40) (p : chkL (l.drop k.toNat) = chkL l) (k1 : ¬ k < l.length) (i2 : ins = 0) : 0 = checkF l ins := by
  rw [ck_e h p k1, if_neg (by omega), if_neg]
  rintro ⟨h1, _⟩
  exact h1 i2
abbrev chkAs : List Shp := [.sl rawE, .int .i64]
abbrev chkFn : Spec := fnSpec chkAs [.int .i64] [] (fun _ => True) fun x y => y.1 = checkF x.1 x.2.1
def ckC_t : SpecT := lf0 48 (lastFn)
def ckC : Cx := ⟨tt, qt, bt, st, ckC_t, 0, 1000000000000000, fun _ => none, false, CxE.no⟩
theorem ckC_si {E : Env} (h : E.ok) : SpecsOk Try.prog E (CxE.no) ckC_t (fun _ => none) := ⟨(lf0_ok (clast_sp h)), noI_ok _ _ _⟩
theorem ckC_x {E : Env} (h : E.ok) : CxEOk Try.prog E (CxE.no) := CxE.no_ok _ _
theorem ckC_cx (E : Env) (h : E.ok) (h1 : E.lo = 0) (h2 : E.hi = 1000000000000000) : Cx.ok ckC Try.prog E := ⟨tt_ok, qt_ok, bt_ok, ckC_si h, h, h1, h2, mixed_ok, ckC_x h⟩
theorem ckC_from (lo hi : Nat) (E : Env) (h : E.ok) (h1 : E.lo = lo) (h2 : E.hi = hi) : Cx.ok (Cx.from ckC lo hi) Try.prog E := ⟨tt_ok, qt_ok, bt_ok, ckC_si h, h, h1, h2, mixed_ok, ckC_x h⟩
theorem cchk_fn : hasFn Try.prog 39 := ⟨_, Try.func39, by rfl, by rfl⟩
theorem cchk_sp {E : Env} (hE : E.ok) : SpecOk Try.prog E 39 chkFn := by
  refine spec_of_vc (C := ckC) cchk_fn Try.func39 (by kernel_rfl) ckC_cx (fun x hl hx => ?_) hE
  obtain ⟨l, ins, u⟩ := x
  have hlen : l.length ≤ 140737488355328 := by simp only [Shp.lims, Shp.lim] at hl; exact hl.1.1
  cbv
  (repeat' (first | ((with_reducible refine And.intro (fun h => ?_) (fun h => ?_)) <;> (first | with_reducible exact (tf h (by assumption)).elim | with_reducible exact (tf (by assumption) h).elim | cbv)) | ((with_reducible show JoinT (fun s K => vc _ (Code.region _ _ true) s K) _ _ _ _ _); (with_reducible apply JoinT.mg2); (focus (cbv; (repeat' (first | ((with_reducible refine And.intro (fun h => ?_) (fun h => ?_)) <;> (first | with_reducible exact (tf h (by assumption)).elim | with_reducible exact (tf (by assumption) h).elim | cbv)) | ((with_reducible first | refine Cb.mk ?_ | refine Lz.mk ?_ | refine JoinT.left ?_ | refine AllT.mk (fun x hx => ?_)); cbv) | ((with_reducible refine Ob.mk (fun _ => ?_) ?_); rotate_left 1) | (with_reducible first | refine Mg.mk (Exists.intro ?_ (And.intro ?_ ?_)) | rfl | refine Fin.mk ?_ | exact True.intro | refine And.intro ?_ ?_))); (all_goals (try (have du : Unit := (); have dv : Unit := (); first | exact Goes.self (Ex2.mk ⟨dv, du, trivial, trivial, rfl⟩) | exact Goes.self (Ex2.mk ⟨x, du, hx, trivial, rfl⟩) | (rename_i xa hxa; exact Goes.self (Ex2.mk ⟨xa, x, hxa, hx, rfl⟩))))); (all_goals (fail_if_success (with_reducible first | show Goes _ _ _ _ | show (∃ _, unr _ _ _ _ _ _))))))) | ((with_reducible first | refine Cb.mk ?_ | refine Lz.mk ?_ | refine JoinT.left ?_ | refine AllT.mk (fun x hx => ?_)); cbv) | ((with_reducible refine Ob.mk (fun _ => ?_) ?_); rotate_left 1) | (with_reducible first | refine Mg.mk (Exists.intro ?_ (And.intro ?_ ?_)) | rfl | refine Fin.mk ?_ | exact True.intro | refine And.intro ?_ ?_)))
  all_goals first | (with_reducible show (∃ _, unr _ _ _ _ _ _); skip) | (with_reducible show Goes _ _ _ _; skip) | (with_reducible show JoinT _ _ _ _ _ _; skip) | (first | ((try dsimp only [Shp.D, Shp.Ds, Shp.dflt] at *); simp only [vem, veq, ne_eq, cmpI, arI, dvI, shI, SV.den, obLt, elemAt, obApp, partL, obPart, lowD, highD, mxOk, convL_self, zerosB, List.length_replicate, vln] at *; (try dsimp only [Shp.D, Shp.Ds, Shp.dflt, Shp.dflts] at *); done) | ((try dsimp only [Shp.D, Shp.Ds, Shp.dflt] at *); simp only [vem, veq, ne_eq, cmpI, arI, dvI, shI, SV.den, obLt, elemAt, obApp, partL, obPart, lowD, highD, mxOk, convL_self, zerosB, List.length_replicate, vln] at *; (try dsimp only [Shp.D, Shp.Ds, Shp.dflt, Shp.dflts] at *); unfold checkF; rw [if_pos (by omega)]))
  with_reducible refine loop_hv [] (5 :: 6 :: rangeN 13 56) [] [] (fun z b t y => 0 ≤ z 12 ∧ z 12 ≤ (l.length : Int) ∧ chkL (l.drop (z 12).toNat) = chkL l) (fun z b t y => ((l.length : Int) - z 12).toNat) (by cbv) (by cbv) ?_ ?_ (fun z1 b1 t1 u1 y1 R1 hP1 hR1 => ?_)
  · refine EndOk.mk (by cbv) (by cbv) (by cbv; repeat' (first | exact True.intro | exact rfl | with_reducible refine And.intro ?_ ?_)) (by cbv; repeat' (first | exact True.intro | exact rfl | with_reducible refine And.intro ?_ ?_)) (by cbv; repeat' (first | exact True.intro | exact rfl | with_reducible refine And.intro ?_ ?_))
  · intro zq bq tq yq hUq
    have q12 := hUq.z 12
    cbv at q12
    replace q12 := q12.eq
    simp only [atI, vem, veq, ne_eq, cmpI, arI, dvI, shI, SV.den] at q12
    clear hUq
    try dsimp only [Shp.D, Shp.Ds, Shp.dflt] at *
    try simp only [vem, veq, ne_eq, cmpI, arI, dvI, shI, SV.den, convL_self] at *
    rw [← q12]
    exact ⟨by omega, by omega, rfl⟩
  obtain ⟨p1, p2, p3⟩ := hP1
  cbv
  (repeat' (first | ((with_reducible refine And.intro (fun h => ?_) (fun h => ?_)) <;> (first | with_reducible exact (tf h (by assumption)).elim | with_reducible exact (tf (by assumption) h).elim | cbv)) | ((with_reducible show JoinT (fun s K => vc _ (Code.region _ _ true) s K) _ _ _ _ _); (with_reducible apply JoinT.mg2); (focus (cbv; (repeat' (first | ((with_reducible refine And.intro (fun h => ?_) (fun h => ?_)) <;> (first | with_reducible exact (tf h (by assumption)).elim | with_reducible exact (tf (by assumption) h).elim | cbv)) | ((with_reducible first | refine Cb.mk ?_ | refine Lz.mk ?_ | refine JoinT.left ?_ | refine AllT.mk (fun x hx => ?_)); cbv) | ((with_reducible refine Ob.mk (fun _ => ?_) ?_); rotate_left 1) | (with_reducible first | refine Mg.mk (Exists.intro ?_ (And.intro ?_ ?_)) | rfl | refine Fin.mk ?_ | exact True.intro | refine And.intro ?_ ?_))); (all_goals (try (have du : Unit := (); have dv : Unit := (); first | exact Goes.self (Ex2.mk ⟨dv, du, trivial, trivial, rfl⟩) | exact Goes.self (Ex2.mk ⟨x, du, hx, trivial, rfl⟩) | (rename_i xa hxa; exact Goes.self (Ex2.mk ⟨xa, x, hxa, hx, rfl⟩))))); (all_goals (fail_if_success (with_reducible first | show Goes _ _ _ _ | show (∃ _, unr _ _ _ _ _ _))))))) | ((with_reducible first | refine Cb.mk ?_ | refine Lz.mk ?_ | refine JoinT.left ?_ | refine AllT.mk (fun x hx => ?_)); cbv) | ((with_reducible refine Ob.mk (fun _ => ?_) ?_); rotate_left 1) | (with_reducible first | refine Mg.mk (Exists.intro ?_ (And.intro ?_ ?_)) | rfl | refine Fin.mk ?_ | exact True.intro | refine And.intro ?_ ?_)))
  all_goals first | (with_reducible show (∃ _, unr _ _ _ _ _ _); skip) | (with_reducible show Goes _ _ _ _; skip) | (with_reducible show JoinT _ _ _ _ _ _; skip) | (first | ((try dsimp only [Shp.D, Shp.Ds, Shp.dflt] at *); simp only [vem, veq, ne_eq, cmpI, arI, dvI, shI, SV.den, obLt, elemAt, obApp, partL, obPart, lowD, highD, mxOk, convL_self, zerosB, List.length_replicate, vln] at *; (try dsimp only [Shp.D, Shp.Ds, Shp.dflt, Shp.dflts] at *); done) | ((try dsimp only [Shp.D, Shp.Ds, Shp.dflt] at *); simp only [vem, veq, ne_eq, cmpI, arI, dvI, shI, SV.den, obLt, elemAt, obApp, partL, obPart, lowD, highD, mxOk, convL_self, zerosB, List.length_replicate, vln] at *; (try dsimp only [Shp.D, Shp.Ds, Shp.dflt, Shp.dflts] at *); omega) | ((try dsimp only [Shp.D, Shp.Ds, Shp.dflt] at *); simp only [vem, veq, ne_eq, cmpI, arI, dvI, shI, SV.den, obLt, elemAt, obApp, partL, obPart, lowD, highD, mxOk, convL_self, zerosB, List.length_replicate, vln] at *; (try dsimp only [Shp.D, Shp.Ds, Shp.dflt, Shp.dflts] at *); exact ck_5 (by omega) p3 p1 (by omega) (.inl h)) | ((try dsimp only [Shp.D, Shp.Ds, Shp.dflt] at *); simp only [vem, veq, ne_eq, cmpI, arI, dvI, shI, SV.den, obLt, elemAt, obApp, partL, obPart, lowD, highD, mxOk, convL_self, zerosB, List.length_replicate, vln] at *; (try dsimp only [Shp.D, Shp.Ds, Shp.dflt, Shp.dflts] at *); exact ck_5 (by omega) p3 p1 (by omega) (.inr h)) | ((try dsimp only [Shp.D, Shp.Ds, Shp.dflt] at *); simp only [vem, veq, ne_eq, cmpI, arI, dvI, shI, SV.den, obLt, elemAt, obApp, partL, obPart, lowD, highD, mxOk, convL_self, zerosB, List.length_replicate, vln] at *; (try dsimp only [Shp.D, Shp.Ds, Shp.dflt, Shp.dflts] at *); exact ck_11 (by omega) p3 p1 (by omega) (by omega) (by omega) (by omega)) | ((try dsimp only [Shp.D, Shp.Ds, Shp.dflt] at *); simp only [vem, veq, ne_eq, cmpI, arI, dvI, shI, SV.den, obLt, elemAt, obApp, partL, obPart, lowD, highD, mxOk, convL_self, zerosB, List.length_replicate, vln] at *; (try dsimp only [Shp.D, Shp.Ds, Shp.dflt, Shp.dflts] at *); exact ck_7 (by omega) p3 p1 (by omega) (by omega) (by omega) (by omega) (by assumption) (by omega)) | ((try dsimp only [Shp.D, Shp.Ds, Shp.dflt] at *); simp only [vem, veq, ne_eq, cmpI, arI, dvI, shI, SV.den, obLt, elemAt, obApp, partL, obPart, lowD, highD, mxOk, convL_self, zerosB, List.length_replicate, vln] at *; (try dsimp only [Shp.D, Shp.Ds, Shp.dflt, Shp.dflts] at *); rw [ck_e (by omega) p3 (by assumption), if_pos (by omega)]; done) | ((try dsimp only [Shp.D, Shp.Ds, Shp.dflt] at *); simp only [vem, veq, ne_eq, cmpI, arI, dvI, shI, SV.den, obLt, elemAt, obApp, partL, obPart, lowD, highD, mxOk, convL_self, zerosB, List.length_replicate, vln] at *; (try dsimp only [Shp.D, Shp.Ds, Shp.dflt, Shp.dflts] at *); rw [ck_e (by omega) p3 (by assumption), if_neg (by omega), if_pos ⟨by omega, by omega⟩]; done) | (try ((try dsimp only [Shp.D, Shp.Ds, Shp.dflt] at *); simp only [vem, veq, ne_eq, cmpI, arI, dvI, shI, SV.den, obLt, elemAt, obApp, partL, obPart, lowD, highD, mxOk, convL_self, zerosB, List.length_replicate, vln] at *; (try dsimp only [Shp.D, Shp.Ds, Shp.dflt, Shp.dflts] at *))))
  all_goals first
    | (with_reducible show Goes _ _ _ _; skip)
    | (exact ck_e7 (by omega) p3 (by assumption) (by assumption) (by assumption) (by assumption) (by assumption) h)
    | (exact ck_e0 (by omega) p3 (by assumption) (by assumption) (by assumption) (by assumption) h)
    | (exact ck_e00 (by omega) p3 (by assumption) h)
    | (try ((try dsimp only [Shp.D, Shp.Ds, Shp.dflt] at *); simp only [vem, veq, ne_eq, cmpI, arI, dvI, shI, SV.den, obLt, elemAt, obApp, partL, obPart, lowD, highD, mxOk, convL_self, zerosB, List.length_replicate, vln] at *; (try dsimp only [Shp.D, Shp.Ds, Shp.dflt, Shp.dflts] at *)))
  · with_reducible refine hR1 _ ?_ (fun zq bq tq yq hUq => ?_)
    · refine EndOk.mk (by cbv) (by cbv) (by cbv; repeat' (first | exact True.intro | exact rfl | with_reducible refine And.intro ?_ ?_)) (by cbv; repeat' (first | exact True.intro | exact rfl | with_reducible refine And.intro ?_ ?_)) (by cbv; repeat' (first | exact True.intro | exact rfl | with_reducible refine And.intro ?_ ?_))
    have q12 := hUq.z 12
    cbv at q12
    replace q12 := q12.eq
    simp only [atI, vem, veq, ne_eq, cmpI, arI, dvI, shI, SV.den] at q12
    clear hUq hR1
    try dsimp only [Shp.D, Shp.Ds, Shp.dflt] at *
    try simp only [vem, veq, ne_eq, cmpI, arI, dvI, shI, SV.den, elemAt, convL_self] at *
    try dsimp only [Shp.D, Shp.Ds, Shp.dflt, Shp.dflts] at *
    refine ⟨⟨by omega, by omega, ck_go p3 p1 (by omega) (by assumption) (by assumption) (by assumption) (.inr (by omega)) (by omega)⟩, by omega⟩
  · with_reducible refine hR1 _ ?_ (fun zq bq tq yq hUq => ?_)
    · refine EndOk.mk (by cbv) (by cbv) (by cbv; repeat' (first | exact True.intro | exact rfl | with_reducible refine And.intro ?_ ?_)) (by cbv; repeat' (first | exact True.intro | exact rfl | with_reducible refine And.intro ?_ ?_)) (by cbv; repeat' (first | exact True.intro | exact rfl | with_reducible refine And.intro ?_ ?_))
    have q12 := hUq.z 12
    cbv at q12
    replace q12 := q12.eq
    simp only [atI, vem, veq, ne_eq, cmpI, arI, dvI, shI, SV.den] at q12
    clear hUq hR1
    try dsimp only [Shp.D, Shp.Ds, Shp.dflt] at *
    try simp only [vem, veq, ne_eq, cmpI, arI, dvI, shI, SV.den, elemAt, convL_self] at *
    try dsimp only [Shp.D, Shp.Ds, Shp.dflt, Shp.dflts] at *
    refine ⟨⟨by omega, by omega, ck_go p3 p1 (by omega) (by assumption) (by assumption) (by assumption) (.inl (by assumption)) (by omega)⟩, by omega⟩
end Go.Proofs.Ytfcpbeolhlkmnaa.V
