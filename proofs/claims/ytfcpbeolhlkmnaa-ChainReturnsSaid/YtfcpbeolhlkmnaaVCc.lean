/- Contracts: chains of payloads are built (document). -/
import Derived.Test.YtfcpbeolhlkmnaaVCb
set_option linter.unusedVariables false
set_option linter.unusedSimpArgs false
namespace Go.Proofs.Ytfcpbeolhlkmnaa.V
open Go.RowKit
set_option maxHeartbeats 8000000
set_option maxRecDepth 100000
theorem ch_err {l : List RawT} {ins c : Int} (h : c = checkF l ins) (h0 : c ≠ 0) : ((0 : Int), ([] : List UInt8), c) = chainF l ins := by
  unfold chainF
  rw [if_pos (by rw [← h]; exact h0), h]
theorem ch_nil {l : List RawT} {ins : Int} (h : 0 = checkF l ins) (h0 : (l.length : Int) = 0) : ((0 : Int), ([] : List UInt8), (0 : Int)) = chainF l ins := by
  unfold chainF
  obtain rfl : l = [] := List.eq_nil_of_length_eq_zero (by omega)
  rw [if_neg (by rw [← h]; simp)]
  rfl
theorem rb_step {l : List RawT} {ins k j nx : Int} {ys x : List UInt8} {m : UInt8} (r4 : ys ++ outB (l.drop k.toNat) ins = outB l ins) (k0 : 0 ≤ k) (k1 : k < (l.length : Int)) (hl40 : l.length ≤ 40) (hj : j = k + 1) (hm' : ((l.getD k.toNat raw0).2.1 = true ∧ m = 128) ∨ ((l.getD k.toNat raw0).2.1 = false ∧ m = 0))
    (hn : (k < ((l.length : Int) - 1 + 9223372036854775808) % 18446744073709551616 - 9223372036854775808 ∧ nx = (l.getD ((k + 1 + 9223372036854775808) % 18446744073709551616 - 9223372036854775808).toNat raw0).1) ∨ (¬ k < ((l.length : Int) - 1 + 9223372036854775808) % 18446744073709551616 - 9223372036854775808 ∧ nx = ins)) (c2 : chkL l = 0) (r3 : (ys.length : Int) ≤ 65535 * k)
    (hx : x = ys ++ [toB (IntKind.u8.wrap nx), m] ++ putF (IntKind.u64.wrap ((((l.getD k.toNat raw0).2.2.1.length : Int) + 4 + 9223372036854775808) % 18446744073709551616 - 9223372036854775808)) 2) :
    ((x ++ (l.getD k.toNat raw0).2.2.1).length : Int) ≤ 65535 * j ∧ (x ++ (l.getD k.toNat raw0).2.2.1) ++ outB (l.drop j.toNat) ins = outB l ins := by
  have e : nx = nextF l ins k.toNat := by
    unfold nextF
    rcases hn with ⟨h1, h2⟩ | ⟨h1, h2⟩
    · rw [if_pos (by omega), h2, show ((k + 1 + 9223372036854775808) % 18446744073709551616 - 9223372036854775808).toNat = k.toNat + 1 by omega]
    · rw [if_neg (by omega), h2]
  refine cb_step (ks := l.map (·.1)) (n := l.length) (by rw [List.take_of_length_le (by omega)]) (by omega) r4 k0 k1 hl40 hj hm' c2 r3 ?_
  rw [hx, e, show ((k + 1 + 9223372036854775808) % 18446744073709551616 - 9223372036854775808).toNat = k.toNat + 1 by omega, kinds_at l ins k.toNat (by omega)]
theorem rb_end {l : List RawT} {ins k : Int} {ys : List UInt8} (r4 : ys ++ outB (l.drop k.toNat) ins = outB l ins) (k1 : ¬ k < (l.length : Int)) (hc : checkF l ins = 0) (hl : ¬ (l.length : Int) = 0) : ((l.getD (Int.toNat 0) raw0).1, ys, 0) = chainF l ins := by
  have := cb_end (ks := l.map (·.1)) (n := l.length) (by rw [List.take_of_length_le (by omega)]) (by omega) r4 k1 hc
  rw [← this]
  cases l with
  | nil => exact absurd rfl hl
  | cons r l => rfl
abbrev rputS2 : Spec := fnSpec putAs [.sl .byte] [5] putPre putPost
def rcbC_t : SpecT := nd0 42 (lf0 41 (lastFn)) (lf0 42 (rputS2))
def rcbC : Cx := ⟨tt, qt, bt, st, rcbC_t, 0, 1000000000000000, fun _ => none, false, CxE.no⟩
theorem rcbC_si {E : Env} (h : E.ok) : SpecsOk Try.prog E (CxE.no) rcbC_t (fun _ => none) := ⟨(nd0_ok (lf0_ok (rlast_sp h)) (lf0_ok (rput_sp h))), noI_ok _ _ _⟩
theorem rcbC_x {E : Env} (h : E.ok) : CxEOk Try.prog E (CxE.no) := CxE.no_ok _ _
theorem rcbC_cx (E : Env) (h : E.ok) (h1 : E.lo = 0) (h2 : E.hi = 1000000000000000) : Cx.ok rcbC Try.prog E := ⟨tt_ok, qt_ok, bt_ok, rcbC_si h, h, h1, h2, mixed_ok, rcbC_x h⟩
theorem rcbC_from (lo hi : Nat) (E : Env) (h : E.ok) (h1 : E.lo = lo) (h2 : E.hi = hi) : Cx.ok (Cx.from rcbC lo hi) Try.prog E := ⟨tt_ok, qt_ok, bt_ok, rcbC_si h, h, h1, h2, mixed_ok, rcbC_x h⟩
theorem rcb_fn : hasFn Try.prog 18 := ⟨_, Try.func18, by rfl, by rfl⟩
theorem rcb_sp {E : Env} (hE : E.ok) : SpecOk Try.prog E 18 cbuSp := by
  refine spec_of_vc (C := rcbC) rcb_fn Try.func18 (by kernel_rfl) rcbC_cx (fun x hl hx => ?_) hE
  obtain ⟨l, ins, u⟩ := x
  have hlen : l.length ≤ 140737488355328 := by simp only [Shp.lims, Shp.lim] at hl; exact hl.1.1
  cbv
  (repeat' (first | ((with_reducible refine And.intro (fun h => ?_) (fun h => ?_)) <;> (first | with_reducible exact (tf h (by assumption)).elim | with_reducible exact (tf (by assumption) h).elim | cbv)) | ((with_reducible show JoinT (fun s K => vc _ (Code.region _ _ true) s K) _ _ _ _ _); (with_reducible apply JoinT.mg2); (focus (cbv; (repeat' (first | ((with_reducible refine And.intro (fun h => ?_) (fun h => ?_)) <;> (first | with_reducible exact (tf h (by assumption)).elim | with_reducible exact (tf (by assumption) h).elim | cbv)) | ((with_reducible first | refine Cb.mk ?_ | refine Lz.mk ?_ | refine JoinT.left ?_ | refine AllT.mk (fun x hx => ?_)); cbv) | ((with_reducible refine Ob.mk (fun _ => ?_) ?_); rotate_left 1) | (with_reducible first | refine Mg.mk (Exists.intro ?_ (And.intro ?_ ?_)) | rfl | refine Fin.mk ?_ | exact True.intro | refine And.intro ?_ ?_))); (all_goals (try (have du : Unit := (); have dv : Unit := (); first | exact Goes.self (Ex2.mk ⟨dv, du, trivial, trivial, rfl⟩) | exact Goes.self (Ex2.mk ⟨x, du, hx, trivial, rfl⟩) | (rename_i xa hxa; exact Goes.self (Ex2.mk ⟨xa, x, hxa, hx, rfl⟩))))); (all_goals (fail_if_success (with_reducible first | show Goes _ _ _ _ | show (∃ _, unr _ _ _ _ _ _))))))) | ((with_reducible first | refine Cb.mk ?_ | refine Lz.mk ?_ | refine JoinT.left ?_ | refine AllT.mk (fun x hx => ?_)); cbv) | ((with_reducible refine Ob.mk (fun _ => ?_) ?_); rotate_left 1) | (with_reducible first | refine Mg.mk (Exists.intro ?_ (And.intro ?_ ?_)) | rfl | refine Fin.mk ?_ | exact True.intro | refine And.intro ?_ ?_)))
  all_goals first | (with_reducible show (∃ _, unr _ _ _ _ _ _); skip) | (with_reducible show Goes _ _ _ _; skip) | (with_reducible show JoinT _ _ _ _ _ _; skip) | (first | ((try dsimp only [Shp.D, Shp.Ds, Shp.dflt] at *); simp only [vem, veq, ne_eq, cmpI, arI, dvI, shI, SV.den, obLt, elemAt, obApp, partL, obPart, lowD, highD, mxOk, convL_self, zerosB, List.length_replicate, vln] at *; (try dsimp only [Shp.D, Shp.Ds, Shp.dflt, Shp.dflts] at *); done) | ((try dsimp only [Shp.D, Shp.Ds, Shp.dflt] at *); simp only [vem, veq, ne_eq, cmpI, arI, dvI, shI, SV.den, obLt, elemAt, obApp, partL, obPart, lowD, highD, mxOk, convL_self, zerosB, List.length_replicate, vln] at *; (try dsimp only [Shp.D, Shp.Ds, Shp.dflt, Shp.dflts] at *); exact ch_err (by unfold checkF; rw [if_pos (by omega)]) (by decide)))
  with_reducible refine loop_hv [] (rangeN 15 120) [] [] (fun z b t y => 0 ≤ z 7 ∧ z 7 ≤ (l.length : Int) ∧ chkL (l.drop (z 7).toNat) = chkL l) (fun z b t y => ((l.length : Int) - z 7).toNat) (by cbv) (by cbv) ?_ ?_ (fun z1 b1 t1 u1 y1 R1 hP1 hR1 => ?_)
  · refine EndOk.mk (by cbv) (by cbv) (by cbv; repeat' (first | exact True.intro | exact rfl | with_reducible refine And.intro ?_ ?_)) (by cbv; repeat' (first | exact True.intro | exact rfl | with_reducible refine And.intro ?_ ?_)) (by cbv; repeat' (first | exact True.intro | exact rfl | with_reducible refine And.intro ?_ ?_))
  · intro zq bq tq yq hUq
    have q7 := hUq.z 7
    cbv at q7
    replace q7 := q7.eq
    simp only [atI, vem, veq, ne_eq, cmpI, arI, dvI, shI, SV.den] at q7
    clear hUq
    try dsimp only [Shp.D, Shp.Ds, Shp.dflt] at *
    try simp only [vem, veq, ne_eq, cmpI, arI, dvI, shI, SV.den, convL_self] at *
    rw [← q7]
    exact ⟨by omega, by omega, rfl⟩
  obtain ⟨p1, p2, p3⟩ := hP1
  cbv
  (repeat' (first | ((with_reducible refine And.intro (fun h => ?_) (fun h => ?_)) <;> (first | with_reducible exact (tf h (by assumption)).elim | with_reducible exact (tf (by assumption) h).elim | cbv)) | ((with_reducible show JoinT (fun s K => vc _ (Code.region _ _ true) s K) _ _ _ _ _); (with_reducible apply JoinT.mg2); (focus (cbv; (repeat' (first | ((with_reducible refine And.intro (fun h => ?_) (fun h => ?_)) <;> (first | with_reducible exact (tf h (by assumption)).elim | with_reducible exact (tf (by assumption) h).elim | cbv)) | ((with_reducible first | refine Cb.mk ?_ | refine Lz.mk ?_ | refine JoinT.left ?_ | refine AllT.mk (fun x hx => ?_)); cbv) | ((with_reducible refine Ob.mk (fun _ => ?_) ?_); rotate_left 1) | (with_reducible first | refine Mg.mk (Exists.intro ?_ (And.intro ?_ ?_)) | rfl | refine Fin.mk ?_ | exact True.intro | refine And.intro ?_ ?_))); (all_goals (try (have du : Unit := (); have dv : Unit := (); first | exact Goes.self (Ex2.mk ⟨dv, du, trivial, trivial, rfl⟩) | exact Goes.self (Ex2.mk ⟨x, du, hx, trivial, rfl⟩) | (rename_i xa hxa; exact Goes.self (Ex2.mk ⟨xa, x, hxa, hx, rfl⟩))))); (all_goals (fail_if_success (with_reducible first | show Goes _ _ _ _ | show (∃ _, unr _ _ _ _ _ _))))))) | ((with_reducible first | refine Cb.mk ?_ | refine Lz.mk ?_ | refine JoinT.left ?_ | refine AllT.mk (fun x hx => ?_)); cbv) | ((with_reducible refine Ob.mk (fun _ => ?_) ?_); rotate_left 1) | (with_reducible first | refine Mg.mk (Exists.intro ?_ (And.intro ?_ ?_)) | rfl | refine Fin.mk ?_ | exact True.intro | refine And.intro ?_ ?_)))
  all_goals first | (with_reducible show (∃ _, unr _ _ _ _ _ _); skip) | (with_reducible show Goes _ _ _ _; skip) | (with_reducible show JoinT _ _ _ _ _ _; skip) | (first | ((try dsimp only [Shp.D, Shp.Ds, Shp.dflt] at *); simp only [vem, veq, ne_eq, cmpI, arI, dvI, shI, SV.den, obLt, elemAt, obApp, partL, obPart, lowD, highD, mxOk, convL_self, zerosB, List.length_replicate, vln] at *; (try dsimp only [Shp.D, Shp.Ds, Shp.dflt, Shp.dflts] at *); done) | ((try dsimp only [Shp.D, Shp.Ds, Shp.dflt] at *); simp only [vem, veq, ne_eq, cmpI, arI, dvI, shI, SV.den, obLt, elemAt, obApp, partL, obPart, lowD, highD, mxOk, convL_self, zerosB, List.length_replicate, vln] at *; (try dsimp only [Shp.D, Shp.Ds, Shp.dflt, Shp.dflts] at *); omega) | ((try dsimp only [Shp.D, Shp.Ds, Shp.dflt] at *); simp only [vem, veq, ne_eq, cmpI, arI, dvI, shI, SV.den, obLt, elemAt, obApp, partL, obPart, lowD, highD, mxOk, convL_self, zerosB, List.length_replicate, vln] at *; (try dsimp only [Shp.D, Shp.Ds, Shp.dflt, Shp.dflts] at *); exact ch_err (ck_5 (by omega) p3 p1 (by omega) (.inl h)) (by decide)) | ((try dsimp only [Shp.D, Shp.Ds, Shp.dflt] at *); simp only [vem, veq, ne_eq, cmpI, arI, dvI, shI, SV.den, obLt, elemAt, obApp, partL, obPart, lowD, highD, mxOk, convL_self, zerosB, List.length_replicate, vln] at *; (try dsimp only [Shp.D, Shp.Ds, Shp.dflt, Shp.dflts] at *); exact ch_err (ck_5 (by omega) p3 p1 (by omega) (.inr h)) (by decide)) | ((try dsimp only [Shp.D, Shp.Ds, Shp.dflt] at *); simp only [vem, veq, ne_eq, cmpI, arI, dvI, shI, SV.den, obLt, elemAt, obApp, partL, obPart, lowD, highD, mxOk, convL_self, zerosB, List.length_replicate, vln] at *; (try dsimp only [Shp.D, Shp.Ds, Shp.dflt, Shp.dflts] at *); exact ch_err (ck_11 (by omega) p3 p1 (by omega) (by assumption) (by assumption) h) (by decide)) | ((try dsimp only [Shp.D, Shp.Ds, Shp.dflt] at *); simp only [vem, veq, ne_eq, cmpI, arI, dvI, shI, SV.den, obLt, elemAt, obApp, partL, obPart, lowD, highD, mxOk, convL_self, zerosB, List.length_replicate, vln] at *; (try dsimp only [Shp.D, Shp.Ds, Shp.dflt, Shp.dflts] at *); exact ch_err (ck_7 (by omega) p3 p1 (by omega) (by assumption) (by assumption) (by assumption) (by assumption) (by omega)) (by decide)) | ((try dsimp only [Shp.D, Shp.Ds, Shp.dflt] at *); simp only [vem, veq, ne_eq, cmpI, arI, dvI, shI, SV.den, obLt, elemAt, obApp, partL, obPart, lowD, highD, mxOk, convL_self, zerosB, List.length_replicate, vln] at *; (try dsimp only [Shp.D, Shp.Ds, Shp.dflt, Shp.dflts] at *); exact ch_err (by rw [ck_e (by omega) p3 (by assumption), if_pos (by omega)]) (by decide)) | ((try dsimp only [Shp.D, Shp.Ds, Shp.dflt] at *); simp only [vem, veq, ne_eq, cmpI, arI, dvI, shI, SV.den, obLt, elemAt, obApp, partL, obPart, lowD, highD, mxOk, convL_self, zerosB, List.length_replicate, vln] at *; (try dsimp only [Shp.D, Shp.Ds, Shp.dflt, Shp.dflts] at *); exact ch_err (by rw [ck_e (by omega) p3 (by assumption), if_neg (by omega), if_pos ⟨by omega, by omega⟩]) (by decide)) | ((try dsimp only [Shp.D, Shp.Ds, Shp.dflt] at *); simp only [vem, veq, ne_eq, cmpI, arI, dvI, shI, SV.den, obLt, elemAt, obApp, partL, obPart, lowD, highD, mxOk, convL_self, zerosB, List.length_replicate, vln] at *; (try dsimp only [Shp.D, Shp.Ds, Shp.dflt, Shp.dflts] at *); exact ch_err (ck_e7 (by omega) p3 (by assumption) (by assumption) (by assumption) (by assumption) (by assumption) h) (by decide)) | ((try dsimp only [Shp.D, Shp.Ds, Shp.dflt] at *); simp only [vem, veq, ne_eq, cmpI, arI, dvI, shI, SV.den, obLt, elemAt, obApp, partL, obPart, lowD, highD, mxOk, convL_self, zerosB, List.length_replicate, vln] at *; (try dsimp only [Shp.D, Shp.Ds, Shp.dflt, Shp.dflts] at *); exact ch_nil (ck_e0 (by omega) p3 (by assumption) (by assumption) (by assumption) (by assumption) (by assumption)) (by assumption)) | ((try dsimp only [Shp.D, Shp.Ds, Shp.dflt] at *); simp only [vem, veq, ne_eq, cmpI, arI, dvI, shI, SV.den, obLt, elemAt, obApp, partL, obPart, lowD, highD, mxOk, convL_self, zerosB, List.length_replicate, vln] at *; (try dsimp only [Shp.D, Shp.Ds, Shp.dflt, Shp.dflts] at *); exact ch_nil (ck_e00 (by omega) p3 (by assumption) (by assumption)) (by assumption)) | (try ((try dsimp only [Shp.D, Shp.Ds, Shp.dflt] at *); simp only [vem, veq, ne_eq, cmpI, arI, dvI, shI, SV.den, obLt, elemAt, obApp, partL, obPart, lowD, highD, mxOk, convL_self, zerosB, List.length_replicate, vln] at *; (try dsimp only [Shp.D, Shp.Ds, Shp.dflt, Shp.dflts] at *))))
  · with_reducible refine hR1 _ ?_ (fun zq bq tq yq hUq => ?_)
    · refine EndOk.mk (by cbv) (by cbv) (by cbv; repeat' (first | exact True.intro | exact rfl | with_reducible refine And.intro ?_ ?_)) (by cbv; repeat' (first | exact True.intro | exact rfl | with_reducible refine And.intro ?_ ?_)) (by cbv; repeat' (first | exact True.intro | exact rfl | with_reducible refine And.intro ?_ ?_))
    have q7 := hUq.z 7
    cbv at q7
    replace q7 := q7.eq
    simp only [atI, vem, veq, ne_eq, cmpI, arI, dvI, shI, SV.den] at q7
    clear hUq hR1
    try dsimp only [Shp.D, Shp.Ds, Shp.dflt] at *
    try simp only [vem, veq, ne_eq, cmpI, arI, dvI, shI, SV.den, elemAt, convL_self] at *
    try dsimp only [Shp.D, Shp.Ds, Shp.dflt, Shp.dflts] at *
    exact ⟨⟨by omega, by omega, ck_go p3 p1 (by omega) (by assumption) (by assumption) (by assumption) (.inr (by omega)) (by omega)⟩, by omega⟩
  · with_reducible refine hR1 _ ?_ (fun zq bq tq yq hUq => ?_)
    · refine EndOk.mk (by cbv) (by cbv) (by cbv; repeat' (first | exact True.intro | exact rfl | with_reducible refine And.intro ?_ ?_)) (by cbv; repeat' (first | exact True.intro | exact rfl | with_reducible refine And.intro ?_ ?_)) (by cbv; repeat' (first | exact True.intro | exact rfl | with_reducible refine And.intro ?_ ?_))
    have q7 := hUq.z 7
    cbv at q7
    replace q7 := q7.eq
    simp only [atI, vem, veq, ne_eq, cmpI, arI, dvI, shI, SV.den] at q7
    clear hUq hR1
    try dsimp only [Shp.D, Shp.Ds, Shp.dflt] at *
    try simp only [vem, veq, ne_eq, cmpI, arI, dvI, shI, SV.den, elemAt, convL_self] at *
    try dsimp only [Shp.D, Shp.Ds, Shp.dflt, Shp.dflts] at *
    exact ⟨⟨by omega, by omega, ck_go p3 p1 (by omega) (by assumption) (by assumption) (by assumption) (.inl (by assumption)) (by omega)⟩, by omega⟩
  · have hc : checkF l ins = 0 := by ((try dsimp only [Shp.D, Shp.Ds, Shp.dflt] at *); simp only [vem, veq, ne_eq, cmpI, arI, dvI, shI, SV.den, obLt, elemAt, obApp, partL, obPart, lowD, highD, mxOk, convL_self, zerosB, List.length_replicate, vln] at *; (try dsimp only [Shp.D, Shp.Ds, Shp.dflt, Shp.dflts] at *); exact (ck_e0 (by omega) p3 (by assumption) (by assumption) (by assumption) (by assumption) (by assumption)).symm)
    have hl0 : ¬ (l.length : Int) = 0 := by ((try dsimp only [Shp.D, Shp.Ds, Shp.dflt] at *); simp only [vem, veq, ne_eq, cmpI, arI, dvI, shI, SV.den, obLt, elemAt, obApp, partL, obPart, lowD, highD, mxOk, convL_self, zerosB, List.length_replicate, vln] at *; (try dsimp only [Shp.D, Shp.Ds, Shp.dflt, Shp.dflts] at *); exact h)
    obtain ⟨c1, c2, c3, c4, c5⟩ := checkF_0 hc
    with_reducible refine loop_hv [(8, 902, 5, .byte)] (10 :: 11 :: rangeN 89 46) [] [902] (fun z b t y => 0 ≤ z 9 ∧ z 9 ≤ (l.length : Int) ∧ ((y 902 .byte).length : Int) ≤ 65535 * z 9 ∧ y 902 .byte ++ outB (l.drop (z 9).toNat) ins = outB l ins) (fun z b t y => ((l.length : Int) - z 9).toNat) (by cbv) (by cbv) ?_ ?_ (fun z2 b2 t2 u2 y2 R2 hP2 hR2 => ?_)
    · refine EndOk.mk (by cbv) (by cbv) (by cbv; repeat' (first | exact True.intro | exact rfl | with_reducible refine And.intro ?_ ?_)) (by cbv; repeat' (first | exact True.intro | exact rfl | with_reducible refine And.intro ?_ ?_)) (by cbv; repeat' (first | exact True.intro | exact rfl | with_reducible refine And.intro ?_ ?_))
    · intro zq bq tq yq hUq
      have q9 := hUq.z 9
      cbv at q9
      replace q9 := q9.eq
      simp only [atI, vem, veq, ne_eq, cmpI, arI, dvI, shI, SV.den] at q9
      have qy902 := hUq.y 902 (.byte)
      cbv at qy902
      replace qy902 := qy902.eq
      simp only [atY, convL_self, vem, veq, ne_eq, cmpI, arI, dvI, shI, SV.den] at qy902
      clear hUq
      try dsimp only [Shp.D, Shp.Ds, Shp.dflt] at *
      try simp only [vem, veq, ne_eq, cmpI, arI, dvI, shI, SV.den, convL_self] at *
      rw [← q9, ← qy902]
      exact ⟨by omega, by omega, by simp, rfl⟩
    obtain ⟨r1, r2, r3, r4⟩ := hP2
    cbv
    (repeat' (first | ((with_reducible refine And.intro (fun h => ?_) (fun h => ?_)) <;> (first | with_reducible exact (tf h (by assumption)).elim | with_reducible exact (tf (by assumption) h).elim | cbv)) | ((with_reducible show JoinT (fun s K => vc _ (Code.region _ _ true) s K) _ _ _ _ _); (with_reducible apply JoinT.mg2); (focus (cbv; (repeat' (first | ((with_reducible refine And.intro (fun h => ?_) (fun h => ?_)) <;> (first | with_reducible exact (tf h (by assumption)).elim | with_reducible exact (tf (by assumption) h).elim | cbv)) | ((with_reducible first | refine Cb.mk ?_ | refine Lz.mk ?_ | refine JoinT.left ?_ | refine AllT.mk (fun x hx => ?_)); cbv) | ((with_reducible refine Ob.mk (fun _ => ?_) ?_); rotate_left 1) | (with_reducible first | refine Mg.mk (Exists.intro ?_ (And.intro ?_ ?_)) | rfl | refine Fin.mk ?_ | exact True.intro | refine And.intro ?_ ?_))); (all_goals (try (have du : Unit := (); have dv : Unit := (); first | exact Goes.self (Ex2.mk ⟨dv, du, trivial, trivial, rfl⟩) | exact Goes.self (Ex2.mk ⟨x, du, hx, trivial, rfl⟩) | (rename_i xa hxa; exact Goes.self (Ex2.mk ⟨xa, x, hxa, hx, rfl⟩))))); (all_goals (fail_if_success (with_reducible first | show Goes _ _ _ _ | show (∃ _, unr _ _ _ _ _ _))))))) | ((with_reducible first | refine Cb.mk ?_ | refine Lz.mk ?_ | refine JoinT.left ?_ | refine AllT.mk (fun x hx => ?_)); cbv) | ((with_reducible refine Ob.mk (fun _ => ?_) ?_); rotate_left 1) | (with_reducible first | refine Mg.mk (Exists.intro ?_ (And.intro ?_ ?_)) | rfl | refine Fin.mk ?_ | exact True.intro | refine And.intro ?_ ?_)))
    all_goals first | (with_reducible show (∃ _, unr _ _ _ _ _ _); skip) | (with_reducible show Goes _ _ _ _; skip) | (with_reducible show JoinT _ _ _ _ _ _; skip) | (first | ((try dsimp only [Shp.D, Shp.Ds, Shp.dflt] at *); simp only [vem, veq, ne_eq, cmpI, arI, dvI, shI, SV.den, obLt, elemAt, obApp, partL, obPart, lowD, highD, mxOk, convL_self, zerosB, List.length_replicate, vln] at *; (try dsimp only [Shp.D, Shp.Ds, Shp.dflt, Shp.dflts] at *); done) | ((try dsimp only [Shp.D, Shp.Ds, Shp.dflt] at *); simp only [vem, veq, ne_eq, cmpI, arI, dvI, shI, SV.den, obLt, elemAt, obApp, partL, obPart, lowD, highD, mxOk, convL_self, zerosB, List.length_replicate, vln] at *; (try dsimp only [Shp.D, Shp.Ds, Shp.dflt, Shp.dflts] at *); omega) | ((try dsimp only [Shp.D, Shp.Ds, Shp.dflt] at *); simp only [vem, veq, ne_eq, cmpI, arI, dvI, shI, SV.den, obLt, elemAt, obApp, partL, obPart, lowD, highD, mxOk, convL_self, zerosB, List.length_replicate, vln] at *; (try dsimp only [Shp.D, Shp.Ds, Shp.dflt, Shp.dflts] at *); exact cb_lim c2 c1 r1 (by assumption) r3 hx.1.2) | ((try dsimp only [Shp.D, Shp.Ds, Shp.dflt] at *); simp only [vem, veq, ne_eq, cmpI, arI, dvI, shI, SV.den, obLt, elemAt, obApp, partL, obPart, lowD, highD, mxOk, convL_self, zerosB, List.length_replicate, vln] at *; (try dsimp only [Shp.D, Shp.Ds, Shp.dflt, Shp.dflts] at *); exact rb_end r4 h hc hl0) | (try ((try dsimp only [Shp.D, Shp.Ds, Shp.dflt] at *); simp only [vem, veq, ne_eq, cmpI, arI, dvI, shI, SV.den, obLt, elemAt, obApp, partL, obPart, lowD, highD, mxOk, convL_self, zerosB, List.length_replicate, vln] at *; (try dsimp only [Shp.D, Shp.Ds, Shp.dflt, Shp.dflts] at *))))
    all_goals first
      | (with_reducible show Goes _ _ _ _; skip)
      | trace_state
    · with_reducible refine hR2 _ ?_ (fun zq bq tq yq hUq => ?_)
      · refine EndOk.mk (by cbv) (by cbv) (by cbv; repeat' (first | exact True.intro | exact rfl | with_reducible refine And.intro ?_ ?_)) (by cbv; repeat' (first | exact True.intro | exact rfl | with_reducible refine And.intro ?_ ?_)) (by cbv; repeat' (first | exact True.intro | exact rfl | with_reducible refine And.intro ?_ ?_))
      have q9 := hUq.z 9
      cbv at q9
      replace q9 := q9.eq
      simp only [atI, vem, veq, ne_eq, cmpI, arI, dvI, shI, SV.den] at q9
      have qy902 := hUq.y 902 (.byte)
      cbv at qy902
      replace qy902 := qy902.eq
      simp only [atY, convL_self, vem, veq, ne_eq, cmpI, arI, dvI, shI, SV.den] at qy902
      clear hUq hR2
      try dsimp only [Shp.D, Shp.Ds, Shp.dflt] at *
      try simp only [vem, veq, ne_eq, cmpI, arI, dvI, shI, SV.den, elemAt, convL_self] at *
      try dsimp only [Shp.D, Shp.Ds, Shp.dflt, Shp.dflts] at *
      obtain ⟨s1, s2⟩ := rb_step r4 r1 (by omega) c1 (j := zq 9) (by omega) (.inl ⟨by assumption, rfl⟩) (.inl ⟨by assumption, rfl⟩) c2 r3 hx.1.1
      rw [qy902] at s1 s2
      exact ⟨⟨by omega, by omega, s1, s2⟩, by omega⟩
    · with_reducible refine hR2 _ ?_ (fun zq bq tq yq hUq => ?_)
      · refine EndOk.mk (by cbv) (by cbv) (by cbv; repeat' (first | exact True.intro | exact rfl | with_reducible refine And.intro ?_ ?_)) (by cbv; repeat' (first | exact True.intro | exact rfl | with_reducible refine And.intro ?_ ?_)) (by cbv; repeat' (first | exact True.intro | exact rfl | with_reducible refine And.intro ?_ ?_))
      have q9 := hUq.z 9
      cbv at q9
      replace q9 := q9.eq
      simp only [atI, vem, veq, ne_eq, cmpI, arI, dvI, shI, SV.den] at q9
      have qy902 := hUq.y 902 (.byte)
      cbv at qy902
      replace qy902 := qy902.eq
      simp only [atY, convL_self, vem, veq, ne_eq, cmpI, arI, dvI, shI, SV.den] at qy902
      clear hUq hR2
      try dsimp only [Shp.D, Shp.Ds, Shp.dflt] at *
      try simp only [vem, veq, ne_eq, cmpI, arI, dvI, shI, SV.den, elemAt, convL_self] at *
      try dsimp only [Shp.D, Shp.Ds, Shp.dflt, Shp.dflts] at *
      obtain ⟨s1, s2⟩ := rb_step r4 r1 (by omega) c1 (j := zq 9) (by omega) (.inr ⟨by assumption, rfl⟩) (.inl ⟨by assumption, rfl⟩) c2 r3 hx.1.1
      rw [qy902] at s1 s2
      exact ⟨⟨by omega, by omega, s1, s2⟩, by omega⟩
    · with_reducible refine hR2 _ ?_ (fun zq bq tq yq hUq => ?_)
      · refine EndOk.mk (by cbv) (by cbv) (by cbv; repeat' (first | exact True.intro | exact rfl | with_reducible refine And.intro ?_ ?_)) (by cbv; repeat' (first | exact True.intro | exact rfl | with_reducible refine And.intro ?_ ?_)) (by cbv; repeat' (first | exact True.intro | exact rfl | with_reducible refine And.intro ?_ ?_))
      have q9 := hUq.z 9
      cbv at q9
      replace q9 := q9.eq
      simp only [atI, vem, veq, ne_eq, cmpI, arI, dvI, shI, SV.den] at q9
      have qy902 := hUq.y 902 (.byte)
      cbv at qy902
      replace qy902 := qy902.eq
      simp only [atY, convL_self, vem, veq, ne_eq, cmpI, arI, dvI, shI, SV.den] at qy902
      clear hUq hR2
      try dsimp only [Shp.D, Shp.Ds, Shp.dflt] at *
      try simp only [vem, veq, ne_eq, cmpI, arI, dvI, shI, SV.den, elemAt, convL_self] at *
      try dsimp only [Shp.D, Shp.Ds, Shp.dflt, Shp.dflts] at *
      obtain ⟨s1, s2⟩ := rb_step r4 r1 (by omega) c1 (j := zq 9) (by omega) (.inl ⟨by assumption, rfl⟩) (.inr ⟨by assumption, rfl⟩) c2 r3 hx.1.1
      rw [qy902] at s1 s2
      exact ⟨⟨by omega, by omega, s1, s2⟩, by omega⟩
    · with_reducible refine hR2 _ ?_ (fun zq bq tq yq hUq => ?_)
      · refine EndOk.mk (by cbv) (by cbv) (by cbv; repeat' (first | exact True.intro | exact rfl | with_reducible refine And.intro ?_ ?_)) (by cbv; repeat' (first | exact True.intro | exact rfl | with_reducible refine And.intro ?_ ?_)) (by cbv; repeat' (first | exact True.intro | exact rfl | with_reducible refine And.intro ?_ ?_))
      have q9 := hUq.z 9
      cbv at q9
      replace q9 := q9.eq
      simp only [atI, vem, veq, ne_eq, cmpI, arI, dvI, shI, SV.den] at q9
      have qy902 := hUq.y 902 (.byte)
      cbv at qy902
      replace qy902 := qy902.eq
      simp only [atY, convL_self, vem, veq, ne_eq, cmpI, arI, dvI, shI, SV.den] at qy902
      clear hUq hR2
      try dsimp only [Shp.D, Shp.Ds, Shp.dflt] at *
      try simp only [vem, veq, ne_eq, cmpI, arI, dvI, shI, SV.den, elemAt, convL_self] at *
      try dsimp only [Shp.D, Shp.Ds, Shp.dflt, Shp.dflts] at *
      obtain ⟨s1, s2⟩ := rb_step r4 r1 (by omega) c1 (j := zq 9) (by omega) (.inr ⟨by assumption, rfl⟩) (.inr ⟨by assumption, rfl⟩) c2 r3 hx.1.1
      rw [qy902] at s1 s2
      exact ⟨⟨by omega, by omega, s1, s2⟩, by omega⟩
  · have hc : checkF l ins = 0 := by ((try dsimp only [Shp.D, Shp.Ds, Shp.dflt] at *); simp only [vem, veq, ne_eq, cmpI, arI, dvI, shI, SV.den, obLt, elemAt, obApp, partL, obPart, lowD, highD, mxOk, convL_self, zerosB, List.length_replicate, vln] at *; (try dsimp only [Shp.D, Shp.Ds, Shp.dflt, Shp.dflts] at *); exact (ck_e00 (by omega) p3 (by assumption) (by assumption)).symm)
    have hl0 : ¬ (l.length : Int) = 0 := by ((try dsimp only [Shp.D, Shp.Ds, Shp.dflt] at *); simp only [vem, veq, ne_eq, cmpI, arI, dvI, shI, SV.den, obLt, elemAt, obApp, partL, obPart, lowD, highD, mxOk, convL_self, zerosB, List.length_replicate, vln] at *; (try dsimp only [Shp.D, Shp.Ds, Shp.dflt, Shp.dflts] at *); exact h)
    obtain ⟨c1, c2, c3, c4, c5⟩ := checkF_0 hc
    with_reducible refine loop_hv [(8, 902, 5, .byte)] (10 :: 11 :: rangeN 89 46) [] [902] (fun z b t y => 0 ≤ z 9 ∧ z 9 ≤ (l.length : Int) ∧ ((y 902 .byte).length : Int) ≤ 65535 * z 9 ∧ y 902 .byte ++ outB (l.drop (z 9).toNat) ins = outB l ins) (fun z b t y => ((l.length : Int) - z 9).toNat) (by cbv) (by cbv) ?_ ?_ (fun z2 b2 t2 u2 y2 R2 hP2 hR2 => ?_)
    · refine EndOk.mk (by cbv) (by cbv) (by cbv; repeat' (first | exact True.intro | exact rfl | with_reducible refine And.intro ?_ ?_)) (by cbv; repeat' (first | exact True.intro | exact rfl | with_reducible refine And.intro ?_ ?_)) (by cbv; repeat' (first | exact True.intro | exact rfl | with_reducible refine And.intro ?_ ?_))
    · intro zq bq tq yq hUq
      have q9 := hUq.z 9
      cbv at q9
      replace q9 := q9.eq
      simp only [atI, vem, veq, ne_eq, cmpI, arI, dvI, shI, SV.den] at q9
      have qy902 := hUq.y 902 (.byte)
      cbv at qy902
      replace qy902 := qy902.eq
      simp only [atY, convL_self, vem, veq, ne_eq, cmpI, arI, dvI, shI, SV.den] at qy902
      clear hUq
      try dsimp only [Shp.D, Shp.Ds, Shp.dflt] at *
      try simp only [vem, veq, ne_eq, cmpI, arI, dvI, shI, SV.den, convL_self] at *
      rw [← q9, ← qy902]
      exact ⟨by omega, by omega, by simp, rfl⟩
    obtain ⟨r1, r2, r3, r4⟩ := hP2
    cbv
    (repeat' (first | ((with_reducible refine And.intro (fun h => ?_) (fun h => ?_)) <;> (first | with_reducible exact (tf h (by assumption)).elim | with_reducible exact (tf (by assumption) h).elim | cbv)) | ((with_reducible show JoinT (fun s K => vc _ (Code.region _ _ true) s K) _ _ _ _ _); (with_reducible apply JoinT.mg2); (focus (cbv; (repeat' (first | ((with_reducible refine And.intro (fun h => ?_) (fun h => ?_)) <;> (first | with_reducible exact (tf h (by assumption)).elim | with_reducible exact (tf (by assumption) h).elim | cbv)) | ((with_reducible first | refine Cb.mk ?_ | refine Lz.mk ?_ | refine JoinT.left ?_ | refine AllT.mk (fun x hx => ?_)); cbv) | ((with_reducible refine Ob.mk (fun _ => ?_) ?_); rotate_left 1) | (with_reducible first | refine Mg.mk (Exists.intro ?_ (And.intro ?_ ?_)) | rfl | refine Fin.mk ?_ | exact True.intro | refine And.intro ?_ ?_))); (all_goals (try (have du : Unit := (); have dv : Unit := (); first | exact Goes.self (Ex2.mk ⟨dv, du, trivial, trivial, rfl⟩) | exact Goes.self (Ex2.mk ⟨x, du, hx, trivial, rfl⟩) | (rename_i xa hxa; exact Goes.self (Ex2.mk ⟨xa, x, hxa, hx, rfl⟩))))); (all_goals (fail_if_success (with_reducible first | show Goes _ _ _ _ | show (∃ _, unr _ _ _ _ _ _))))))) | ((with_reducible first | refine Cb.mk ?_ | refine Lz.mk ?_ | refine JoinT.left ?_ | refine AllT.mk (fun x hx => ?_)); cbv) | ((with_reducible refine Ob.mk (fun _ => ?_) ?_); rotate_left 1) | (with_reducible first | refine Mg.mk (Exists.intro ?_ (And.intro ?_ ?_)) | rfl | refine Fin.mk ?_ | exact True.intro | refine And.intro ?_ ?_)))
    all_goals first | (with_reducible show (∃ _, unr _ _ _ _ _ _); skip) | (with_reducible show Goes _ _ _ _; skip) | (with_reducible show JoinT _ _ _ _ _ _; skip) | (first | ((try dsimp only [Shp.D, Shp.Ds, Shp.dflt] at *); simp only [vem, veq, ne_eq, cmpI, arI, dvI, shI, SV.den, obLt, elemAt, obApp, partL, obPart, lowD, highD, mxOk, convL_self, zerosB, List.length_replicate, vln] at *; (try dsimp only [Shp.D, Shp.Ds, Shp.dflt, Shp.dflts] at *); done) | ((try dsimp only [Shp.D, Shp.Ds, Shp.dflt] at *); simp only [vem, veq, ne_eq, cmpI, arI, dvI, shI, SV.den, obLt, elemAt, obApp, partL, obPart, lowD, highD, mxOk, convL_self, zerosB, List.length_replicate, vln] at *; (try dsimp only [Shp.D, Shp.Ds, Shp.dflt, Shp.dflts] at *); omega) | ((try dsimp only [Shp.D, Shp.Ds, Shp.dflt] at *); simp only [vem, veq, ne_eq, cmpI, arI, dvI, shI, SV.den, obLt, elemAt, obApp, partL, obPart, lowD, highD, mxOk, convL_self, zerosB, List.length_replicate, vln] at *; (try dsimp only [Shp.D, Shp.Ds, Shp.dflt, Shp.dflts] at *); exact cb_lim c2 c1 r1 (by assumption) r3 hx.1.2) | ((try dsimp only [Shp.D, Shp.Ds, Shp.dflt] at *); simp only [vem, veq, ne_eq, cmpI, arI, dvI, shI, SV.den, obLt, elemAt, obApp, partL, obPart, lowD, highD, mxOk, convL_self, zerosB, List.length_replicate, vln] at *; (try dsimp only [Shp.D, Shp.Ds, Shp.dflt, Shp.dflts] at *); exact rb_end r4 h hc hl0) | (try ((try dsimp only [Shp.D, Shp.Ds, Shp.dflt] at *); simp only [vem, veq, ne_eq, cmpI, arI, dvI, shI, SV.den, obLt, elemAt, obApp, partL, obPart, lowD, highD, mxOk, convL_self, zerosB, List.length_replicate, vln] at *; (try dsimp only [Shp.D, Shp.Ds, Shp.dflt, Shp.dflts] at *))))
    all_goals first
      | (with_reducible show Goes _ _ _ _; skip)
      | trace_state
    · with_reducible refine hR2 _ ?_ (fun zq bq tq yq hUq => ?_)
      · refine EndOk.mk (by cbv) (by cbv) (by cbv; repeat' (first | exact True.intro | exact rfl | with_reducible refine And.intro ?_ ?_)) (by cbv; repeat' (first | exact True.intro | exact rfl | with_reducible refine And.intro ?_ ?_)) (by cbv; repeat' (first | exact True.intro | exact rfl | with_reducible refine And.intro ?_ ?_))
      have q9 := hUq.z 9
      cbv at q9
      replace q9 := q9.eq
      simp only [atI, vem, veq, ne_eq, cmpI, arI, dvI, shI, SV.den] at q9
      have qy902 := hUq.y 902 (.byte)
      cbv at qy902
      replace qy902 := qy902.eq
      simp only [atY, convL_self, vem, veq, ne_eq, cmpI, arI, dvI, shI, SV.den] at qy902
      clear hUq hR2
      try dsimp only [Shp.D, Shp.Ds, Shp.dflt] at *
      try simp only [vem, veq, ne_eq, cmpI, arI, dvI, shI, SV.den, elemAt, convL_self] at *
      try dsimp only [Shp.D, Shp.Ds, Shp.dflt, Shp.dflts] at *
      obtain ⟨s1, s2⟩ := rb_step r4 r1 (by omega) c1 (j := zq 9) (by omega) (.inl ⟨by assumption, rfl⟩) (.inl ⟨by assumption, rfl⟩) c2 r3 hx.1.1
      rw [qy902] at s1 s2
      exact ⟨⟨by omega, by omega, s1, s2⟩, by omega⟩
    · with_reducible refine hR2 _ ?_ (fun zq bq tq yq hUq => ?_)
      · refine EndOk.mk (by cbv) (by cbv) (by cbv; repeat' (first | exact True.intro | exact rfl | with_reducible refine And.intro ?_ ?_)) (by cbv; repeat' (first | exact True.intro | exact rfl | with_reducible refine And.intro ?_ ?_)) (by cbv; repeat' (first | exact True.intro | exact rfl | with_reducible refine And.intro ?_ ?_))
      have q9 := hUq.z 9
      cbv at q9
      replace q9 := q9.eq
      simp only [atI, vem, veq, ne_eq, cmpI, arI, dvI, shI, SV.den] at q9
      have qy902 := hUq.y 902 (.byte)
      cbv at qy902
      replace qy902 := qy902.eq
      simp only [atY, convL_self, vem, veq, ne_eq, cmpI, arI, dvI, shI, SV.den] at qy902
      clear hUq hR2
      try dsimp only [Shp.D, Shp.Ds, Shp.dflt] at *
      try simp only [vem, veq, ne_eq, cmpI, arI, dvI, shI, SV.den, elemAt, convL_self] at *
      try dsimp only [Shp.D, Shp.Ds, Shp.dflt, Shp.dflts] at *
      obtain ⟨s1, s2⟩ := rb_step r4 r1 (by omega) c1 (j := zq 9) (by omega) (.inr ⟨by assumption, rfl⟩) (.inl ⟨by assumption, rfl⟩) c2 r3 hx.1.1
      rw [qy902] at s1 s2
      exact ⟨⟨by omega, by omega, s1, s2⟩, by omega⟩
    · with_reducible refine hR2 _ ?_ (fun zq bq tq yq hUq => ?_)
      · refine EndOk.mk (by cbv) (by cbv) (by cbv; repeat' (first | exact True.intro | exact rfl | with_reducible refine And.intro ?_ ?_)) (by cbv; repeat' (first | exact True.intro | exact rfl | with_reducible refine And.intro ?_ ?_)) (by cbv; repeat' (first | exact True.intro | exact rfl | with_reducible refine And.intro ?_ ?_))
      have q9 := hUq.z 9
      cbv at q9
      replace q9 := q9.eq
      simp only [atI, vem, veq, ne_eq, cmpI, arI, dvI, shI, SV.den] at q9
      have qy902 := hUq.y 902 (.byte)
      cbv at qy902
      replace qy902 := qy902.eq
      simp only [atY, convL_self, vem, veq, ne_eq, cmpI, arI, dvI, shI, SV.den] at qy902
      clear hUq hR2
      try dsimp only [Shp.D, Shp.Ds, Shp.dflt] at *
      try simp only [vem, veq, ne_eq, cmpI, arI, dvI, shI, SV.den, elemAt, convL_self] at *
      try dsimp only [Shp.D, Shp.Ds, Shp.dflt, Shp.dflts] at *
      obtain ⟨s1, s2⟩ := rb_step r4 r1 (by omega) c1 (j := zq 9) (by omega) (.inl ⟨by assumption, rfl⟩) (.inr ⟨by assumption, rfl⟩) c2 r3 hx.1.1
      rw [qy902] at s1 s2
      exact ⟨⟨by omega, by omega, s1, s2⟩, by omega⟩
    · with_reducible refine hR2 _ ?_ (fun zq bq tq yq hUq => ?_)
      · refine EndOk.mk (by cbv) (by cbv) (by cbv; repeat' (first | exact True.intro | exact rfl | with_reducible refine And.intro ?_ ?_)) (by cbv; repeat' (first | exact True.intro | exact rfl | with_reducible refine And.intro ?_ ?_)) (by cbv; repeat' (first | exact True.intro | exact rfl | with_reducible refine And.intro ?_ ?_))
      have q9 := hUq.z 9
      cbv at q9
      replace q9 := q9.eq
      simp only [atI, vem, veq, ne_eq, cmpI, arI, dvI, shI, SV.den] at q9
      have qy902 := hUq.y 902 (.byte)
      cbv at qy902
      replace qy902 := qy902.eq
      simp only [atY, convL_self, vem, veq, ne_eq, cmpI, arI, dvI, shI, SV.den] at qy902
      clear hUq hR2
      try dsimp only [Shp.D, Shp.Ds, Shp.dflt] at *
      try simp only [vem, veq, ne_eq, cmpI, arI, dvI, shI, SV.den, elemAt, convL_self] at *
      try dsimp only [Shp.D, Shp.Ds, Shp.dflt, Shp.dflts] at *
      obtain ⟨s1, s2⟩ := rb_step r4 r1 (by omega) c1 (j := zq 9) (by omega) (.inr ⟨by assumption, rfl⟩) (.inr ⟨by assumption, rfl⟩) c2 r3 hx.1.1
      rw [qy902] at s1 s2
      exact ⟨⟨by omega, by omega, s1, s2⟩, by omega⟩
end Go.Proofs.Ytfcpbeolhlkmnaa.V
