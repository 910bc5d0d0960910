/- Contracts: chains of payloads are read (the document's answer); lists of payloads are compared. -/
import Derived.Test.YtfcpbeolhlkmnaaVCe
import Derived.Test.YtfcpbeolhlkmnaaVC
set_option linter.unusedVariables false
set_option linter.unusedSimpArgs false
namespace Go.Proofs.Ytfcpbeolhlkmnaa.V
open Go.RowKit
set_option maxHeartbeats 8000000
set_option maxRecDepth 100000
abbrev rslSp : Spec := fnSpec sliAs [.sl .byte, .bool] [5] (fun _ => True) fun x y => y.1 = cutF x.1 x.2.1 x.2.2.1 ∧ y.2.1 = cutOk x.1 x.2.1 x.2.2.1
theorem rsl_fn : hasFn Try.prog 49 := ⟨_, Try.func49, by rfl, by rfl⟩
theorem rsl_sp {E : Env} (hE : E.ok) : SpecOk Try.prog E 49 rslSp := by
  refine spec_of_vc (C := nuC) rsl_fn Try.func49 (by kernel_rfl) nuC_cx (fun x hl hx => ?_) hE
  obtain ⟨l, a, n, u⟩ := x
  simp only [Shp.lims, Shp.lim] at hl hx
  have hlen : (l.length : Int) < 140737488355329 := by omega
  cbv
  (repeat' (first | ((with_reducible refine And.intro (fun h => ?_) (fun h => ?_)) <;> (first | with_reducible exact (tf h (by assumption)).elim | with_reducible exact (tf (by assumption) h).elim | cbv)) | ((with_reducible first | refine Cb.mk ?_ | refine Lz.mk ?_ | refine JoinT.left ?_ | refine AllT.mk (fun x hx => ?_)); cbv) | ((with_reducible refine Ob.mk (fun _ => ?_) ?_); rotate_left 1) | (with_reducible first | refine Mg.mk (Exists.intro ?_ (And.intro ?_ ?_)) | rfl | refine Fin.mk ?_ | exact True.intro | refine And.intro ?_ ?_)))
  all_goals (try dsimp only [Shp.D, Shp.Ds, Shp.dflt] at *); simp only [vem, veq, ne_eq, cmpI, arI, dvI, shI, SV.den, obLt, elemAt, obApp, partL, obPart, lowD, highD, mxOk, convL_self, zerosB, List.length_replicate, vln] at *; (try dsimp only [Shp.D, Shp.Ds, Shp.dflt, Shp.dflts] at *)
  all_goals first
    | omega
    | (rw [cutF, if_neg (by omega)]; done)
    | (rw [cutOk]; symm; rw [decide_eq_false_iff_not]; omega)
    | (rw [cutF, if_pos (by omega), List.nil_append, show ((a + n + 9223372036854775808) % 18446744073709551616 - 9223372036854775808).toNat - a.toNat = n.toNat by omega]; done)
    | (rw [cutOk]; symm; rw [decide_eq_true_iff]; omega)
    | ((try simp only [List.length_append, List.length_nil, List.length_take, List.length_drop, and_true]); omega)
    | trace_state
abbrev W64 (v : Int) : Int := (v + 9223372036854775808) % 18446744073709551616 - 9223372036854775808
theorem w64 {v : Int} (h : -9223372036854775808 ≤ v) (h2 : v < 9223372036854775808) : W64 v = v := by unfold W64; omega
theorem numF_drop {bs : List UInt8} {a : Int} (h : 0 ≤ a) (h2 : a + 4 ≤ (bs.length : Int)) (hl : (bs.length : Int) < 140737488355329) : numF bs (W64 (a + 2)) 2 = numF (bs.drop a.toNat) 2 2 := by
  rw [w64 (by omega) (by omega)]
  unfold numF
  rw [if_pos (by omega), if_pos (by rw [List.length_drop]; omega), List.drop_drop, show a.toNat + (2 : Int).toNat = (a + 2).toNat by omega]
theorem rp_1 {k a : Int} {bs : List UInt8} {y : List RawT} (p3 : 0 ≤ a) (p4 : a ≤ (bs.length : Int)) (hl : (bs.length : Int) < 140737488355329) (p5 : y.length ≤ 40) (hk : ¬ k = 0) (hy : ¬ (y.length : Int) ≥ 40) (h : W64 ((bs.length : Int) - a) < 4) :
    ([], 0, 1) = preL y (parL (40 - (y.length : Int)).toNat k (bs.drop a.toNat)) := by
  rw [w64 (by omega) (by omega)] at h
  have hs : stpF k (bs.drop a.toNat) = (raw0, 0, [], 1, ()) := (stp_1 (by rw [List.length_drop]; omega)).symm
  have := pl_e (l := y) (z := y.length) hs.symm hk (by omega) (by omega) (by decide)
  exact this
theorem rp_2 {k a : Int} {bs : List UInt8} {y : List RawT} (p3 : 0 ≤ a) (p4 : a ≤ (bs.length : Int)) (hl : (bs.length : Int) < 140737488355329) (p5 : y.length ≤ 40) (hk : ¬ k = 0) (hy : ¬ (y.length : Int) ≥ 40) (h : ¬ W64 ((bs.length : Int) - a) < 4)
    (hn : (numF bs (W64 (a + 2)) 2).1 < 4 ∨ W64 ((numF bs (W64 (a + 2)) 2).1) > W64 ((bs.length : Int) - a)) :
    ([], 0, 2) = preL y (parL (40 - (y.length : Int)).toNat k (bs.drop a.toNat)) := by
  rw [w64 (by omega) (by omega)] at h
  rw [numF_drop p3 (by omega) hl, w64 (v := (bs.length : Int) - a) (by omega) (by omega)] at hn
  have hb := lenW_lt (bs.drop a.toNat)
  unfold lenW at hb
  rw [w64 (by omega) (by omega)] at hn
  have hd : ((bs.drop a.toNat).length : Int) = (bs.length : Int) - a := by rw [List.length_drop]; omega
  have hs : stpF k (bs.drop a.toNat) = (raw0, 0, [], 2, ()) := (stp_2 (by omega) (by rw [IntKind.wrap_u64]; omega) (by omega)).symm
  exact pl_e (l := y) (z := y.length) hs.symm hk (by omega) (by omega) (by decide)
theorem rp_st {k a : Int} {bs x1 : List UInt8} (p3 : 0 ≤ a) (p4 : a ≤ (bs.length : Int)) (hl : (bs.length : Int) < 140737488355329) (h : ¬ W64 ((bs.length : Int) - a) < 4)
    (hn : ¬ (numF bs (W64 (a + 2)) 2).1 < 4) (hg : ¬ W64 ((numF bs (W64 (a + 2)) 2).1) > W64 ((bs.length : Int) - a)) (hx : x1 = cutF bs (W64 (a + 4)) (W64 (W64 ((numF bs (W64 (a + 2)) 2).1) - 4))) :
    (((k, bits BinOp.and .u8 ((bs.getD (W64 (a + 1)).toNat 0).toNat : Int) 128 != 0, x1, ()), W64 ((bs.getD a.toNat 0).toNat : Int), bs.drop (W64 (a + W64 ((numF bs (W64 (a + 2)) 2).1))).toNat, 0, ()) : StpT) = stpF k (bs.drop a.toNat) ∧
      0 ≤ W64 (a + W64 ((numF bs (W64 (a + 2)) 2).1)) ∧ W64 (a + W64 ((numF bs (W64 (a + 2)) 2).1)) ≤ (bs.length : Int) := by
  rw [w64 (by omega) (by omega)] at h
  rw [numF_drop p3 (by omega) hl] at hn hg hx ⊢
  rw [w64 (v := (bs.length : Int) - a) (by omega) (by omega)] at hg
  have hb := lenW_lt (bs.drop a.toNat)
  unfold lenW at hb
  have hd : ((bs.drop a.toNat).length : Int) = (bs.length : Int) - a := by rw [List.length_drop]; omega
  rw [w64 (v := (numF (bs.drop a.toNat) 2 2).1) (by omega) (by omega)] at hg hx ⊢
  rw [w64 (v := (numF (bs.drop a.toNat) 2 2).1 - 4) (by omega) (by omega), w64 (v := a + 4) (by omega) (by omega)] at hx
  rw [w64 (v := a + (numF (bs.drop a.toNat) 2 2).1) (by omega) (by omega), w64 (v := a + 1) (by omega) (by omega)]
  have hc := UInt8.toNat_lt (bs.getD a.toNat 0)
  rw [w64 (v := ((bs.getD a.toNat 0).toNat : Int)) (by omega) (by omega)]
  refine ⟨?_, by omega, by omega⟩
  unfold stpF lenW
  rw [if_neg (by omega), if_neg (by omega)]
  have e1 : (bs.drop a.toNat).getD 1 0 = bs.getD (a + 1).toNat 0 := by
    rw [List.getD_eq_getElem?_getD, List.getD_eq_getElem?_getD, List.getElem?_drop, show a.toNat + 1 = (a + 1).toNat by omega]
  have e0 : (bs.drop a.toNat).getD 0 0 = bs.getD a.toNat 0 := by
    rw [List.getD_eq_getElem?_getD, List.getD_eq_getElem?_getD, List.getElem?_drop, Nat.add_zero]
  rw [e1, e0]
  have ex : x1 = ((bs.drop a.toNat).take (numF (bs.drop a.toNat) 2 2).1.toNat).drop 4 := by
    rw [hx, cutF, if_pos (by omega), List.drop_take, List.drop_drop, show a.toNat + 4 = (a + 4).toNat by omega, show (numF (bs.drop a.toNat) 2 2).1.toNat - 4 = ((numF (bs.drop a.toNat) 2 2).1 - 4).toNat by omega]
  rw [ex, List.drop_drop, show a.toNat + (numF (bs.drop a.toNat) 2 2).1.toNat = (a + (numF (bs.drop a.toNat) 2 2).1).toNat by omega]
  rfl
theorem rp_g {y yq : List RawT} {r0 : List RawT × Int × Int} {k kq a aq : Int} {bs : List UInt8} {s : StpT} (p6 : r0 = preL y (parL (40 - (y.length : Int)).toNat k (bs.drop a.toNat))) (p5 : y.length ≤ 40) (hy : ¬ (y.length : Int) ≥ 40)
    (hs : s = stpF k (bs.drop a.toNat)) (he : s.2.2.2.1 = 0) (hk : ¬ k = 0) (hl : lastF k = false) (q8 : s.2.1 = kq) (qy : y ++ [s.1] = yq) (qa : s.2.2.1 = bs.drop aq.toNat) (a0 : 0 ≤ aq) (a1 : aq ≤ (bs.length : Int)) :
    (0 ≤ kq ∧ kq ≤ 255 ∧ 0 ≤ aq ∧ aq ≤ (bs.length : Int) ∧ yq.length ≤ 40 ∧ r0 = preL yq (parL (40 - (yq.length : Int)).toNat kq (bs.drop aq.toNat))) ∧ 41 - yq.length < 41 - y.length := by
  have hn := stp_nx hs
  have hp := pl_s (l := y) (z := y.length) hs hk (by omega) (by omega) he hl
  have e : (yq.length : Int) = (y.length : Int) + 1 := by rw [← qy, List.length_append, List.length_singleton]; omega
  refine ⟨⟨by omega, by omega, a0, a1, by omega, ?_⟩, by omega⟩
  rw [p6, hp, e, ← q8, ← qy, ← qa]
abbrev rpaSp : Spec := fnSpecT [.int .i64, .sl .byte] [none, none] [.sl rawE, .int .i64, .int .i64] [.sh] [] (fun _ => True) fun x y => (y.1, y.2.1, y.2.2.1) = parF x.1 x.2.1
def rpC_t : SpecT := nd0 46 (lf0 41 (lastS)) (nd0 49 (lf0 46 (numSp)) (lf0 49 (rslSp)))
def rpC : Cx := ⟨tt, qt, bt, st, rpC_t, 0, 1000000000000000, fun _ => none, false, CxE.no⟩
theorem rpC_si {E : Env} (h : E.ok) : SpecsOk Try.prog E (CxE.no) rpC_t (fun _ => none) := ⟨(nd0_ok (lf0_ok (rlast_sp h)) (nd0_ok (lf0_ok (rnum_sp h)) (lf0_ok (rsl_sp h)))), noI_ok _ _ _⟩
theorem rpC_x {E : Env} (h : E.ok) : CxEOk Try.prog E (CxE.no) := CxE.no_ok _ _
theorem rpC_cx (E : Env) (h : E.ok) (h1 : E.lo = 0) (h2 : E.hi = 1000000000000000) : Cx.ok rpC Try.prog E := ⟨tt_ok, qt_ok, bt_ok, rpC_si h, h, h1, h2, mixed_ok, rpC_x h⟩
theorem rpC_from (lo hi : Nat) (E : Env) (h : E.ok) (h1 : E.lo = lo) (h2 : E.hi = hi) : Cx.ok (Cx.from rpC lo hi) Try.prog E := ⟨tt_ok, qt_ok, bt_ok, rpC_si h, h, h1, h2, mixed_ok, rpC_x h⟩
theorem rpa_fn : hasFn Try.prog 35 := ⟨_, Try.func35, by rfl, by rfl⟩
theorem rpa_sp {E : Env} (hE : E.ok) : SpecOk Try.prog E 35 rpaSp := by
  refine spec_of_vcT (C := rpC) rpa_fn Try.func35 (by kernel_rfl) rpC_cx (fun x hl hx => ?_) hE
  obtain ⟨k, bs, u⟩ := x
  simp only [Shp.lims, Shp.lim] at hl
  have hlen : (bs.length : Int) < 140737488355329 := by omega
  cbv
  (repeat' (first | ((with_reducible refine And.intro (fun h => ?_) (fun h => ?_)) <;> (first | with_reducible exact (tf h (by assumption)).elim | with_reducible exact (tf (by assumption) h).elim | cbv)) | ((with_reducible show JoinT (fun s K => vc _ (Code.region _ _ true) s K) _ _ _ _ _); (with_reducible apply JoinT.mg2); (focus (cbv; (repeat' (first | ((with_reducible refine And.intro (fun h => ?_) (fun h => ?_)) <;> (first | with_reducible exact (tf h (by assumption)).elim | with_reducible exact (tf (by assumption) h).elim | cbv)) | ((with_reducible first | refine Cb.mk ?_ | refine Lz.mk ?_ | refine JoinT.left ?_ | refine AllT.mk (fun x hx => ?_)); cbv) | ((with_reducible refine Ob.mk (fun _ => ?_) ?_); rotate_left 1) | (with_reducible first | refine Mg.mk (Exists.intro ?_ (And.intro ?_ ?_)) | rfl | refine Fin.mk ?_ | exact True.intro | refine And.intro ?_ ?_))); (all_goals (try (have du : Unit := (); have dv : Unit := (); first | exact Goes.self (Ex2.mk ⟨dv, du, trivial, trivial, rfl⟩) | exact Goes.self (Ex2.mk ⟨x, du, hx, trivial, rfl⟩) | (rename_i xa hxa; exact Goes.self (Ex2.mk ⟨xa, x, hxa, hx, rfl⟩))))); (all_goals (fail_if_success (with_reducible first | show Goes _ _ _ _ | show (∃ _, unr _ _ _ _ _ _))))))) | ((with_reducible first | refine Cb.mk ?_ | refine Lz.mk ?_ | refine JoinT.left ?_ | refine AllT.mk (fun x hx => ?_)); cbv) | ((with_reducible refine Ob.mk (fun _ => ?_) ?_); rotate_left 1) | (with_reducible first | refine Mg.mk (Exists.intro ?_ (And.intro ?_ ?_)) | rfl | refine Fin.mk ?_ | exact True.intro | refine And.intro ?_ ?_)))
  all_goals first | (with_reducible show (∃ _, unr _ _ _ _ _ _); skip) | (with_reducible show Goes _ _ _ _; skip) | (with_reducible show JoinT _ _ _ _ _ _; skip) | (first | ((try dsimp only [Shp.D, Shp.Ds, Shp.dflt] at *); simp only [vem, veq, ne_eq, cmpI, arI, dvI, shI, SV.den, obLt, elemAt, obApp, partL, obPart, lowD, highD, mxOk, convL_self, zerosB, List.length_replicate, vln] at *; (try dsimp only [Shp.D, Shp.Ds, Shp.dflt, Shp.dflts] at *); exact pf_5 (.inl h)) | ((try dsimp only [Shp.D, Shp.Ds, Shp.dflt] at *); simp only [vem, veq, ne_eq, cmpI, arI, dvI, shI, SV.den, obLt, elemAt, obApp, partL, obPart, lowD, highD, mxOk, convL_self, zerosB, List.length_replicate, vln] at *; (try dsimp only [Shp.D, Shp.Ds, Shp.dflt, Shp.dflts] at *); exact pf_5 (.inr h)))
  have h1 := ‹(BE.cmp BinOp.lss _ _).den = false›
  have h2 := ‹(BE.cmp BinOp.gtr _ _).den = false›
  simp only [vem, veq, ne_eq, cmpI, arI, dvI, shI, SV.den] at h1 h2
  with_reducible refine loop_hv [(7, 900001, 32, rawE)] (10 :: 11 :: 12 :: 13 :: 14 :: rangeN 22 69) [] [900001] (fun z b t y => 0 ≤ z 8 ∧ z 8 ≤ 255 ∧ 0 ≤ z 9 ∧ z 9 ≤ (bs.length : Int) ∧ (y 900001 rawE).length ≤ 40 ∧ parL 40 k bs = preL (y 900001 rawE) (parL (40 - ((y 900001 rawE).length : Int)).toNat (z 8) (bs.drop (z 9).toNat))) (fun z b t y => (41 - (y 900001 rawE).length)) (by cbv) (by cbv) ?_ ?_ (fun z1 b1 t1 u1 y1 R1 hP1 hR1 => ?_)
  · refine EndOk.mk (by cbv) (by cbv) (by cbv; repeat' (first | exact True.intro | exact rfl | with_reducible refine And.intro ?_ ?_)) (by cbv; repeat' (first | exact True.intro | exact rfl | with_reducible refine And.intro ?_ ?_)) (by cbv; repeat' (first | exact True.intro | exact rfl | with_reducible refine And.intro ?_ ?_))
  · intro zq bq tq yq hUq
    have q8 := hUq.z 8
    cbv at q8
    replace q8 := q8.eq
    simp only [atI, vem, veq, ne_eq, cmpI, arI, dvI, shI, SV.den] at q8
    have q9 := hUq.z 9
    cbv at q9
    replace q9 := q9.eq
    simp only [atI, vem, veq, ne_eq, cmpI, arI, dvI, shI, SV.den] at q9
    have qy900001 := hUq.y 900001 (rawE)
    cbv at qy900001
    replace qy900001 := qy900001.eq
    simp only [atY, convL_self, vem, veq, ne_eq, cmpI, arI, dvI, shI, SV.den] at qy900001
    clear hUq
    try dsimp only [Shp.D, Shp.Ds, Shp.dflt] at *
    try simp only [vem, veq, ne_eq, cmpI, arI, dvI, shI, SV.den, convL_self] at *
    rw [← q8, ← q9, ← qy900001]
    have h0 := pl_st (b := bs) (c := bs) (l := []) h1 h2 rfl rfl rfl rfl rfl
    exact ⟨by omega, by omega, by omega, by omega, by simp, h0.2.2.2.2.2.2⟩
  obtain ⟨p1, p2, p3, p4, p5, p6⟩ := hP1
  have hlen2 := hlen
  cbv
  (repeat' (first | ((with_reducible refine And.intro (fun h => ?_) (fun h => ?_)) <;> (first | with_reducible exact (tf h (by assumption)).elim | with_reducible exact (tf (by assumption) h).elim | cbv)) | ((with_reducible show JoinT (fun s K => vc _ (Code.region _ _ true) s K) _ _ _ _ _); (with_reducible apply JoinT.mg2); (focus (cbv; (repeat' (first | ((with_reducible refine And.intro (fun h => ?_) (fun h => ?_)) <;> (first | with_reducible exact (tf h (by assumption)).elim | with_reducible exact (tf (by assumption) h).elim | cbv)) | ((with_reducible first | refine Cb.mk ?_ | refine Lz.mk ?_ | refine JoinT.left ?_ | refine AllT.mk (fun x hx => ?_)); cbv) | ((with_reducible refine Ob.mk (fun _ => ?_) ?_); rotate_left 1) | (with_reducible first | refine Mg.mk (Exists.intro ?_ (And.intro ?_ ?_)) | rfl | refine Fin.mk ?_ | exact True.intro | refine And.intro ?_ ?_))); (all_goals (try (have du : Unit := (); have dv : Unit := (); first | exact Goes.self (Ex2.mk ⟨dv, du, trivial, trivial, rfl⟩) | exact Goes.self (Ex2.mk ⟨x, du, hx, trivial, rfl⟩) | (rename_i xa hxa; exact Goes.self (Ex2.mk ⟨xa, x, hxa, hx, rfl⟩))))); (all_goals (fail_if_success (with_reducible first | show Goes _ _ _ _ | show (∃ _, unr _ _ _ _ _ _))))))) | ((with_reducible first | refine Cb.mk ?_ | refine Lz.mk ?_ | refine JoinT.left ?_ | refine AllT.mk (fun x hx => ?_)); cbv) | ((with_reducible refine Ob.mk (fun _ => ?_) ?_); rotate_left 1) | (with_reducible first | refine Mg.mk (Exists.intro ?_ (And.intro ?_ ?_)) | rfl | refine Fin.mk ?_ | exact True.intro | refine And.intro ?_ ?_)))
  all_goals first | (with_reducible show (∃ _, unr _ _ _ _ _ _); skip) | (with_reducible show Goes _ _ _ _; skip) | (with_reducible show JoinT _ _ _ _ _ _; skip) | (first | ((try dsimp only [Shp.D, Shp.Ds, Shp.dflt] at *); simp only [vem, veq, ne_eq, cmpI, arI, dvI, shI, SV.den, obLt, elemAt, obApp, partL, obPart, lowD, highD, mxOk, convL_self, zerosB, List.length_replicate, vln] at *; (try dsimp only [Shp.D, Shp.Ds, Shp.dflt, Shp.dflts] at *); done) | ((try dsimp only [Shp.D, Shp.Ds, Shp.dflt] at *); simp only [vem, veq, ne_eq, cmpI, arI, dvI, shI, SV.den, obLt, elemAt, obApp, partL, obPart, lowD, highD, mxOk, convL_self, zerosB, List.length_replicate, vln] at *; (try dsimp only [Shp.D, Shp.Ds, Shp.dflt, Shp.dflts] at *); omega) | ((try dsimp only [Shp.D, Shp.Ds, Shp.dflt] at *); simp only [vem, veq, ne_eq, cmpI, arI, dvI, shI, SV.den, obLt, elemAt, obApp, partL, obPart, lowD, highD, mxOk, convL_self, zerosB, List.length_replicate, vln] at *; (try dsimp only [Shp.D, Shp.Ds, Shp.dflt, Shp.dflts] at *); exact pl_in h1 h2 p6 (pl_10 (by omega) ‹_›)) | ((try dsimp only [Shp.D, Shp.Ds, Shp.dflt] at *); simp only [vem, veq, ne_eq, cmpI, arI, dvI, shI, SV.den, obLt, elemAt, obApp, partL, obPart, lowD, highD, mxOk, convL_self, zerosB, List.length_replicate, vln] at *; (try dsimp only [Shp.D, Shp.Ds, Shp.dflt, Shp.dflts] at *); exact pl_in h1 h2 p6 (rp_1 p3 p4 hlen p5 ‹_› ‹_› ‹_›)) | ((try dsimp only [Shp.D, Shp.Ds, Shp.dflt] at *); simp only [vem, veq, ne_eq, cmpI, arI, dvI, shI, SV.den, obLt, elemAt, obApp, partL, obPart, lowD, highD, mxOk, convL_self, zerosB, List.length_replicate, vln] at *; (try dsimp only [Shp.D, Shp.Ds, Shp.dflt, Shp.dflts] at *); exact pl_in h1 h2 p6 (rp_2 p3 p4 hlen p5 ‹_› ‹_› ‹_› (.inl h))) | ((try dsimp only [Shp.D, Shp.Ds, Shp.dflt] at *); simp only [vem, veq, ne_eq, cmpI, arI, dvI, shI, SV.den, obLt, elemAt, obApp, partL, obPart, lowD, highD, mxOk, convL_self, zerosB, List.length_replicate, vln] at *; (try dsimp only [Shp.D, Shp.Ds, Shp.dflt, Shp.dflts] at *); exact pl_in h1 h2 p6 (rp_2 p3 p4 hlen p5 ‹_› ‹_› ‹_› (.inr h))) | ((try dsimp only [Shp.D, Shp.Ds, Shp.dflt] at *); simp only [vem, veq, ne_eq, cmpI, arI, dvI, shI, SV.den, obLt, elemAt, obApp, partL, obPart, lowD, highD, mxOk, convL_self, zerosB, List.length_replicate, vln] at *; (try dsimp only [Shp.D, Shp.Ds, Shp.dflt, Shp.dflts] at *); have hs := rp_st (k := z1 8) p3 p4 hlen ‹_› ‹_› ‹_› hx.1.1; exact pl_in h1 h2 p6 (pl_2 hs.1 ‹_› (by omega) (by omega) rfl ‹_› (by have := hs.2; simp only [List.length_drop, W64] at this ⊢; omega))) | ((try dsimp only [Shp.D, Shp.Ds, Shp.dflt] at *); simp only [vem, veq, ne_eq, cmpI, arI, dvI, shI, SV.den, obLt, elemAt, obApp, partL, obPart, lowD, highD, mxOk, convL_self, zerosB, List.length_replicate, vln] at *; (try dsimp only [Shp.D, Shp.Ds, Shp.dflt, Shp.dflts] at *); have hs := rp_st (k := z1 8) p3 p4 hlen ‹_› ‹_› ‹_› hx.1.1; exact pl_in h1 h2 p6 (pl_1 hs.1 ‹_› (by omega) (by omega) rfl ‹_› (by have := hs.2; simp only [List.length_drop, W64] at this ⊢; omega))) | ((try dsimp only [Shp.D, Shp.Ds, Shp.dflt] at *); simp only [vem, veq, ne_eq, cmpI, arI, dvI, shI, SV.den, obLt, elemAt, obApp, partL, obPart, lowD, highD, mxOk, convL_self, zerosB, List.length_replicate, vln] at *; (try dsimp only [Shp.D, Shp.Ds, Shp.dflt, Shp.dflts] at *); have hk0 : z1 8 = 0 := ‹_›; exact pl_in h1 h2 p6 (pl_k2 rfl hk0 (by rw [List.length_drop]; omega))) | ((try dsimp only [Shp.D, Shp.Ds, Shp.dflt] at *); simp only [vem, veq, ne_eq, cmpI, arI, dvI, shI, SV.den, obLt, elemAt, obApp, partL, obPart, lowD, highD, mxOk, convL_self, zerosB, List.length_replicate, vln] at *; (try dsimp only [Shp.D, Shp.Ds, Shp.dflt, Shp.dflts] at *); have hk0 : z1 8 = 0 := ‹_›; exact pl_in h1 h2 p6 (pl_k1 rfl hk0 (by rw [List.length_drop]; omega))) | (try ((try dsimp only [Shp.D, Shp.Ds, Shp.dflt] at *); simp only [vem, veq, ne_eq, cmpI, arI, dvI, shI, SV.den, obLt, elemAt, obApp, partL, obPart, lowD, highD, mxOk, convL_self, zerosB, List.length_replicate, vln] at *; (try dsimp only [Shp.D, Shp.Ds, Shp.dflt, Shp.dflts] at *))))
  all_goals trace_state
  · with_reducible refine hR1 _ ?_ (fun zq bq tq yq hUq => ?_)
    · refine EndOk.mk (by cbv) (by cbv) (by cbv; repeat' (first | exact True.intro | exact rfl | with_reducible refine And.intro ?_ ?_)) (by cbv; repeat' (first | exact True.intro | exact rfl | with_reducible refine And.intro ?_ ?_)) (by cbv; repeat' (first | exact True.intro | exact rfl | with_reducible refine And.intro ?_ ?_))
    have q8 := hUq.z 8
    cbv at q8
    replace q8 := q8.eq
    simp only [atI, vem, veq, ne_eq, cmpI, arI, dvI, shI, SV.den] at q8
    have q9 := hUq.z 9
    cbv at q9
    replace q9 := q9.eq
    simp only [atI, vem, veq, ne_eq, cmpI, arI, dvI, shI, SV.den] at q9
    have qy900001 := hUq.y 900001 (rawE)
    cbv at qy900001
    replace qy900001 := qy900001.eq
    simp only [atY, convL_self, vem, veq, ne_eq, cmpI, arI, dvI, shI, SV.den] at qy900001
    clear hUq hR1
    try dsimp only [Shp.D, Shp.Ds, Shp.dflt] at *
    try simp only [vem, veq, ne_eq, cmpI, arI, dvI, shI, SV.den, elemAt, convL_self] at *
    try dsimp only [Shp.D, Shp.Ds, Shp.dflt, Shp.dflts] at *
    have hs := rp_st (k := z1 8) p3 p4 hlen (by with_reducible assumption) (by with_reducible assumption) (by with_reducible assumption) hx.1.1
    refine rp_g p6 p5 (by with_reducible assumption) hs.1 rfl (by with_reducible assumption) (by with_reducible assumption) q8 qy900001 ?_ ?_ ?_
    · show List.drop _ _ = _
      rw [← q9]
    · rw [← q9]; exact hs.2.1
    · rw [← q9]; exact hs.2.2
end Go.Proofs.Ytfcpbeolhlkmnaa.V
