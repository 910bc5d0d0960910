/- Contracts: lists of selectors are read by the program. -/
import Derived.Test.YtiinlanpinanhaaVSp
set_option linter.unusedVariables false
set_option linter.unusedSimpArgs false
namespace Go.Proofs.Ytiinlanpinanhaa.V
open Go.RowKit
set_option maxHeartbeats 8000000
set_option maxRecDepth 100000
def loopF : Nat → List SelT → List UInt8 → Option (List SelT × List UInt8)
  | 0, l, b => some (l, b)
  | n + 1, l, b => match oneF b with
    | none => none
    | some (s, r) => loopF n (l ++ [s]) r
def endF : Option (List SelT × List UInt8) → List SelT × Int
  | none => ([], 4)
  | some (l, r) => if 0 < r.length then ([], 4) else if chkAll l = 0 then (l, 0) else ([], chkAll l)
def parseF (b : List UInt8) : List SelT × Int :=
  if b.length < 4 then ([], 1) else if (b.getD 0 0).toNat = 0 then ([], 8) else if 16 < (b.getD 0 0).toNat then ([], 10) else endF (loopF (b.getD 0 0).toNat [] (b.drop 4))
abbrev scaSp : Spec := fnSpec [.sl selE] [.int .i64] [] (fun _ => True) fun x y => y.1 = chkAll x.1
def paC2_t : SpecT := nd0 80 (lf0 69 (scaSp)) (lf0 80 (oneSp))
def paC2 : Cx := ⟨tt, qt, bt, st, paC2_t, 0, 1000000000000000⟩
theorem paC2_cx (E : Env) (h : E.ok) (h1 : E.lo = 0) (h2 : E.hi = 1000000000000000) : Cx.ok paC2 Try.prog E := ⟨tt_ok, qt_ok, bt_ok, (nd0_ok (lf0_ok (sca_sp h)) (lf0_ok (one_sp h))), h, h1, h2, mixed_ok⟩
abbrev parseSp : Spec := fnSpec [.sl .byte] [.sl selE, .int .i64] [30] (fun _ => True) fun x y => (y.1, y.2.1) = parseF x.1
theorem sparse_fn : hasFn Try.prog 42 := ⟨_, Try.func42, by rfl, by rfl⟩
theorem loopF_none (n : Nat) (l : List SelT) (b : List UInt8) (hn : 0 < n) (h : oneF b = none) : loopF n l b = none := by
  obtain ⟨k, rfl⟩ : ∃ k, n = k + 1 := ⟨n - 1, by omega⟩
  rw [loopF, h]
theorem loopF_some (n : Nat) (l : List SelT) (b : List UInt8) (hn : 0 < n) (s : SelT) (r : List UInt8) (h : oneF b = some (s, r)) : loopF n l b = loopF (n - 1) (l ++ [s]) r := by
  obtain ⟨k, rfl⟩ : ∃ k, n = k + 1 := ⟨n - 1, by omega⟩
  rw [loopF, h]
  rfl
/-- What a round finds. -/
theorem one_bad {b : List UInt8} {x : SelT × List UInt8 × Bool × Unit} (hx : match oneF b with | some (s, r) => x = (s, r, true, ()) | none => x.2.2.1 = false) (h : x.2.2.1 = false) : oneF b = none := by
  cases ho : oneF b with
  | none => rfl
  | some p =>
    rw [ho] at hx
    simp only at hx
    rw [hx] at h
    cases h
theorem one_good {b : List UInt8} {x : SelT × List UInt8 × Bool × Unit} (hx : match oneF b with | some (s, r) => x = (s, r, true, ()) | none => x.2.2.1 = false) (h : x.2.2.1 = true) : oneF b = some (x.1, x.2.1) := by
  cases ho : oneF b with
  | none =>
    rw [ho] at hx
    simp only at hx
    rw [hx] at h
    cases h
  | some p =>
    rw [ho] at hx
    simp only at hx
    rw [hx]
theorem parse_bad {m : List UInt8} {n k : Int} {l : List SelT} {b : List UInt8} {x : SelT × List UInt8 × Bool × Unit} (hP : parseF m = endF (loopF n.toNat [] (m.drop 4))) (h : loopF (n - k).toNat l b = loopF n.toNat [] (m.drop 4)) (hk : k < n) (hx : match oneF b with | some (s, r) => x = (s, r, true, ()) | none => x.2.2.1 = false) (hb : (!x.2.2.1) = true) : ([], 4) = parseF m := by
  rw [hP, ← h, loopF_none _ _ _ (by omega) (one_bad hx (by simpa using hb))]
  rfl
theorem parse_end {m : List UInt8} {n k : Int} {l : List SelT} {b : List UInt8} (hP : parseF m = endF (loopF n.toNat [] (m.drop 4))) (h : loopF (n - k).toNat l b = loopF n.toNat [] (m.drop 4)) (hk : n ≤ k) : parseF m = if 0 < b.length then ([], 4) else if chkAll l = 0 then (l, 0) else ([], chkAll l) := by
  rw [hP, ← h, show (n - k).toNat = 0 by omega]
  rfl
theorem parse_next {n k : Int} {l : List SelT} {b : List UInt8} {x : SelT × List UInt8 × Bool × Unit} {R : Option (List SelT × List UInt8)} (h : loopF (n - k).toNat l b = R) (hk : k < n) (hx : match oneF b with | some (s, r) => x = (s, r, true, ()) | none => x.2.2.1 = false) (hb : (!x.2.2.1) = false) {j : Int} (hj : j = k + 1) : loopF (n - j).toNat (l ++ [x.1]) x.2.1 = R := by
  rw [← h, loopF_some _ _ _ (by omega) _ _ (one_good hx (by simpa using hb)), show (n - k).toNat - 1 = (n - j).toNat by omega]
theorem sparse_sp {E : Env} (hE : E.ok) : SpecOk Try.prog E 42 parseSp := by
  refine spec_of_vc (C := paC2) sparse_fn Try.func42 (by kernel_rfl) paC2_cx (fun x hl hx => ?_) hE
  obtain ⟨m, u⟩ := x
  have hlen : m.length ≤ 140737488355328 := by simp only [Shp.lims, Shp.lim] at hl; exact hl.1.1
  cbv
  (repeat' (first | (((with_reducible refine And.intro (fun h => ?_) (fun h => ?_))) <;> (first | with_reducible exact (tf h (by assumption)).elim | with_reducible exact (tf (by assumption) h).elim | cbv)) | ((with_reducible refine Mg.mk (Exists.intro ?_ (And.intro ?_ ?_)))) | ((with_reducible refine Cb.mk ?_); cbv) | ((with_reducible refine Lz.mk ?_); cbv) | ((with_reducible refine JoinT.left ?_); cbv) | (with_reducible rfl) | ((with_reducible refine Ob.mk (fun _ => ?_) ?_); rotate_left 1) | ((with_reducible refine AllT.mk (fun x hx => ?_)); cbv) | (with_reducible refine Fin.mk ?_) | (with_reducible exact True.intro) | (with_reducible refine And.intro ?_ ?_)))
  all_goals first | (with_reducible show (∃ _, unr _ _ _ _ _ _); skip) | (with_reducible show Goes _ _ _ _; skip) | (with_reducible show JoinT _ _ _ _ _ _; skip) | (first | ((try dsimp only [Shp.D, Shp.Ds, Shp.dflt] at *); simp only [SV.den, SV.dens, den_c, den_x, den_t, den_ar, den_bt, den_dv, den_sh, den_cv, den_mx, den_mn, den_sel, bden_c, bden_x, bden_t, bden_cmp, bden_not, bden_and, bden_eqb, cmpI, arI, dvI, shI, decide_eq_true_eq, decide_eq_false_iff_not, beq_iff_eq, beq_eq_false_iff_ne, bne_iff_ne, bne_eq_false_iff_eq, ne_eq, Bool.and_eq_true, Bool.or_eq_true, Bool.and_eq_false_iff, Bool.or_eq_false_iff, Bool.not_eq_true, Int.ofNat_eq_natCast, IntKind.wrap_i64, ncast, obLt, elemAt, obApp, partL, obPart, lowD, highD, mxOk, convL_self, List.length_append, List.length_cons, List.length_nil] at *; (try dsimp only [Shp.D, Shp.Ds, Shp.dflt, Shp.dflts] at *); (try simp only [↓reduceIte, and_true, true_and, Int.reduceEq, Int.reduceAdd, Int.reduceMul, Int.reduceMod, Int.reduceSub, Int.reduceToNat, Nat.reduceSub, Nat.reduceAdd, Nat.reduceMul, IntKind.wrap_u64, wrap_byte] at *); first | omega | (rw [parseF, if_pos (by omega)]; done) | (rw [parseF, if_neg (by omega), if_pos (by omega)]; done) | (rw [parseF, if_neg (by omega), if_neg (by omega), if_pos (by omega)]; done)))
  have c1 := ‹(BE.cmp BinOp.lss _ _).den = false›
  have c2 := ‹(BE.cmp BinOp.eql _ _).den = false›
  have c3 := ‹(BE.cmp BinOp.gtr _ _).den = false›
  dsimp only [Shp.D, Shp.Ds, Shp.dflt] at c1 c2 c3
  simp only [SV.den, SV.dens, den_c, den_x, den_t, den_ar, den_bt, den_dv, den_sh, den_cv, den_mx, den_mn, den_sel, bden_c, bden_x, bden_t, bden_cmp, bden_not, bden_and, bden_eqb, cmpI, arI, dvI, shI, decide_eq_true_eq, decide_eq_false_iff_not, beq_iff_eq, beq_eq_false_iff_ne, bne_iff_ne, bne_eq_false_iff_eq, ne_eq, Bool.and_eq_true, Bool.or_eq_true, Bool.and_eq_false_iff, Bool.or_eq_false_iff, Bool.not_eq_true, Int.ofNat_eq_natCast, IntKind.wrap_i64, ncast, elemAt] at c1 c2 c3
  simp only [↓reduceIte, and_true, true_and, Int.reduceEq, Int.reduceAdd, Int.reduceMul, Int.reduceMod, Int.reduceSub, Int.reduceToNat, Nat.reduceSub, Nat.reduceAdd, Nat.reduceMul, IntKind.wrap_u64, wrap_byte] at c1 c2 c3
  dsimp only [Shp.D, Shp.Ds, Shp.dflt] at c1 c2 c3
  have hP : parseF m = endF (loopF (((m.getD 0 0).toNat : Int)).toNat [] (m.drop 4)) := by rw [parseF, if_neg (by omega), if_neg (by omega), if_neg (by omega)]; rfl
  with_reducible refine loop_hv [(5, 900, 30, selE)] (6 :: 7 :: 8 :: 21 :: 22 :: rangeN 25 15) [] [900, 2024] (fun z b t y => 0 ≤ z 24 ∧ z 24 ≤ ((m.getD 0 0).toNat : Int) ∧ ((y 900 selE).length : Int) = z 24 ∧ loopF (((m.getD 0 0).toNat : Int) - z 24).toNat (y 900 selE) (y 2024 .byte) = loopF (((m.getD 0 0).toNat : Int)).toNat [] (m.drop 4)) (fun z b t y => (((m.getD 0 0).toNat : Int) - z 24).toNat) (by cbv) (by cbv) ?_ ?_ (fun z1 b1 t1 u1 y1 R1 hP1 hR1 => ?_)
  · refine EndOk.mk (by cbv) (by cbv) (by cbv; repeat' (first | exact True.intro | exact rfl | with_reducible refine And.intro ?_ ?_)) (by cbv; repeat' (first | exact True.intro | exact rfl | with_reducible refine And.intro ?_ ?_)) (by cbv; repeat' (first | exact True.intro | exact rfl | with_reducible refine And.intro ?_ ?_))
  · intro zq bq tq yq hUq
    have q24 := hUq.z 24
    cbv at q24
    replace q24 := q24.eq
    simp only [atI, SV.den, SV.dens, den_c, den_x, den_t, den_ar, den_bt, den_dv, den_sh, den_cv, den_mx, den_mn, den_sel, bden_c, bden_x, bden_t, bden_cmp, bden_not, bden_and, bden_eqb, cmpI, arI, dvI, shI, decide_eq_true_eq, decide_eq_false_iff_not, beq_iff_eq, beq_eq_false_iff_ne, bne_iff_ne, bne_eq_false_iff_eq, ne_eq, Bool.and_eq_true, Bool.or_eq_true, Bool.and_eq_false_iff, Bool.or_eq_false_iff, Bool.not_eq_true, Int.ofNat_eq_natCast, IntKind.wrap_i64, ncast] at q24
    have qy900 := hUq.y 900 (selE)
    cbv at qy900
    replace qy900 := qy900.eq
    simp only [atY, convL_self, SV.den, SV.dens, den_c, den_x, den_t, den_ar, den_bt, den_dv, den_sh, den_cv, den_mx, den_mn, den_sel, bden_c, bden_x, bden_t, bden_cmp, bden_not, bden_and, bden_eqb, cmpI, arI, dvI, shI, decide_eq_true_eq, decide_eq_false_iff_not, beq_iff_eq, beq_eq_false_iff_ne, bne_iff_ne, bne_eq_false_iff_eq, ne_eq, Bool.and_eq_true, Bool.or_eq_true, Bool.and_eq_false_iff, Bool.or_eq_false_iff, Bool.not_eq_true, Int.ofNat_eq_natCast, IntKind.wrap_i64, ncast] at qy900
    have qy2024 := hUq.y 2024 (.byte)
    cbv at qy2024
    replace qy2024 := qy2024.eq
    simp only [atY, convL_self, SV.den, SV.dens, den_c, den_x, den_t, den_ar, den_bt, den_dv, den_sh, den_cv, den_mx, den_mn, den_sel, bden_c, bden_x, bden_t, bden_cmp, bden_not, bden_and, bden_eqb, cmpI, arI, dvI, shI, decide_eq_true_eq, decide_eq_false_iff_not, beq_iff_eq, beq_eq_false_iff_ne, bne_iff_ne, bne_eq_false_iff_eq, ne_eq, Bool.and_eq_true, Bool.or_eq_true, Bool.and_eq_false_iff, Bool.or_eq_false_iff, Bool.not_eq_true, Int.ofNat_eq_natCast, IntKind.wrap_i64, ncast] at qy2024
    clear hUq
    try dsimp only [Shp.D, Shp.Ds, Shp.dflt] at *
    try simp only [SV.den, SV.dens, den_c, den_x, den_t, den_ar, den_bt, den_dv, den_sh, den_cv, den_mx, den_mn, den_sel, bden_c, bden_x, bden_t, bden_cmp, bden_not, bden_and, bden_eqb, cmpI, arI, dvI, shI, decide_eq_true_eq, decide_eq_false_iff_not, beq_iff_eq, beq_eq_false_iff_ne, bne_iff_ne, bne_eq_false_iff_eq, ne_eq, Bool.and_eq_true, Bool.or_eq_true, Bool.and_eq_false_iff, Bool.or_eq_false_iff, Bool.not_eq_true, Int.ofNat_eq_natCast, IntKind.wrap_i64, ncast, convL_self] at *
    rw [← qy900, ← q24]
    refine ⟨by omega, by omega, rfl, ?_⟩
    rw [← qy2024, Int.sub_zero]
    simp only [partL, lowD, highD, ↓reduceIte, and_true, true_and, Int.reduceEq, Int.reduceAdd, Int.reduceMul, Int.reduceMod, Int.reduceSub, Int.reduceToNat, Nat.reduceSub, Nat.reduceAdd, Nat.reduceMul, IntKind.wrap_u64, SV.den, SV.dens, den_c, den_x, den_t, den_ar, den_bt, den_dv, den_sh, den_cv, den_mx, den_mn, den_sel, bden_c, bden_x, bden_t, bden_cmp, bden_not, bden_and, bden_eqb, cmpI, arI, dvI, shI, decide_eq_true_eq, decide_eq_false_iff_not, beq_iff_eq, beq_eq_false_iff_ne, bne_iff_ne, bne_eq_false_iff_eq, ne_eq, Bool.and_eq_true, Bool.or_eq_true, Bool.and_eq_false_iff, Bool.or_eq_false_iff, Bool.not_eq_true, Int.ofNat_eq_natCast, IntKind.wrap_i64, ncast]
    rw [show (m.length : Int).toNat - 4 = (m.drop 4).length by rw [List.length_drop]; omega, List.take_length]
  obtain ⟨p1, p2, p3, p4⟩ := hP1
  cbv
  (repeat' (first | (((with_reducible refine And.intro (fun h => ?_) (fun h => ?_))) <;> (first | with_reducible exact (tf h (by assumption)).elim | with_reducible exact (tf (by assumption) h).elim | cbv)) | ((with_reducible refine Mg.mk (Exists.intro ?_ (And.intro ?_ ?_)))) | ((with_reducible refine Cb.mk ?_); cbv) | ((with_reducible refine Lz.mk ?_); cbv) | ((with_reducible refine JoinT.left ?_); cbv) | (with_reducible rfl) | ((with_reducible refine Ob.mk (fun _ => ?_) ?_); rotate_left 1) | ((with_reducible refine AllT.mk (fun x hx => ?_)); cbv) | (with_reducible refine Fin.mk ?_) | (with_reducible exact True.intro) | (with_reducible refine And.intro ?_ ?_)))
  all_goals first | (with_reducible show Goes _ _ _ _; skip) | (clear hR1)
  all_goals first | (with_reducible show (∃ _, unr _ _ _ _ _ _); skip) | (with_reducible show Goes _ _ _ _; skip) | (with_reducible show JoinT _ _ _ _ _ _; skip) | (((try dsimp only [Shp.D, Shp.Ds, Shp.dflt] at *); simp only [SV.den, SV.dens, den_c, den_x, den_t, den_ar, den_bt, den_dv, den_sh, den_cv, den_mx, den_mn, den_sel, bden_c, bden_x, bden_t, bden_cmp, bden_not, bden_and, bden_eqb, cmpI, arI, dvI, shI, decide_eq_true_eq, decide_eq_false_iff_not, beq_iff_eq, beq_eq_false_iff_ne, bne_iff_ne, bne_eq_false_iff_eq, ne_eq, Bool.and_eq_true, Bool.or_eq_true, Bool.and_eq_false_iff, Bool.or_eq_false_iff, Bool.not_eq_true, Int.ofNat_eq_natCast, IntKind.wrap_i64, ncast, obLt, elemAt, obApp, partL, obPart, lowD, highD, mxOk, convL_self, List.length_append, List.length_cons, List.length_nil] at *; (try dsimp only [Shp.D, Shp.Ds, Shp.dflt, Shp.dflts] at *); (try simp only [↓reduceIte, and_true, true_and, Int.reduceEq, Int.reduceAdd, Int.reduceMul, Int.reduceMod, Int.reduceSub, Int.reduceToNat, Nat.reduceSub, Nat.reduceAdd, Nat.reduceMul, IntKind.wrap_u64, wrap_byte] at *); first | omega | exact parse_bad hP p4 (by omega) hx.1 (by assumption) | (rw [parse_end hP p4 (by omega)]; first | (rw [if_pos (by omega)]; done) | (rw [if_neg (by omega), if_pos (by omega)]; done) | (rw [if_neg (by omega), if_neg (by omega), hx.1]; done))))
  · with_reducible refine hR1 _ ?_ (fun zq bq tq yq hUq => ?_)
    · refine EndOk.mk (by cbv) (by cbv) (by cbv; repeat' (first | exact True.intro | exact rfl | with_reducible refine And.intro ?_ ?_)) (by cbv; repeat' (first | exact True.intro | exact rfl | with_reducible refine And.intro ?_ ?_)) (by cbv; repeat' (first | exact True.intro | exact rfl | with_reducible refine And.intro ?_ ?_))
    have q24 := hUq.z 24
    cbv at q24
    replace q24 := q24.eq
    simp only [atI, SV.den, SV.dens, den_c, den_x, den_t, den_ar, den_bt, den_dv, den_sh, den_cv, den_mx, den_mn, den_sel, bden_c, bden_x, bden_t, bden_cmp, bden_not, bden_and, bden_eqb, cmpI, arI, dvI, shI, decide_eq_true_eq, decide_eq_false_iff_not, beq_iff_eq, beq_eq_false_iff_ne, bne_iff_ne, bne_eq_false_iff_eq, ne_eq, Bool.and_eq_true, Bool.or_eq_true, Bool.and_eq_false_iff, Bool.or_eq_false_iff, Bool.not_eq_true, Int.ofNat_eq_natCast, IntKind.wrap_i64, ncast] at q24
    have qy900 := hUq.y 900 (selE)
    cbv at qy900
    replace qy900 := qy900.eq
    simp only [atY, convL_self, SV.den, SV.dens, den_c, den_x, den_t, den_ar, den_bt, den_dv, den_sh, den_cv, den_mx, den_mn, den_sel, bden_c, bden_x, bden_t, bden_cmp, bden_not, bden_and, bden_eqb, cmpI, arI, dvI, shI, decide_eq_true_eq, decide_eq_false_iff_not, beq_iff_eq, beq_eq_false_iff_ne, bne_iff_ne, bne_eq_false_iff_eq, ne_eq, Bool.and_eq_true, Bool.or_eq_true, Bool.and_eq_false_iff, Bool.or_eq_false_iff, Bool.not_eq_true, Int.ofNat_eq_natCast, IntKind.wrap_i64, ncast] at qy900
    have qy2024 := hUq.y 2024 (.byte)
    cbv at qy2024
    replace qy2024 := qy2024.eq
    simp only [atY, convL_self, SV.den, SV.dens, den_c, den_x, den_t, den_ar, den_bt, den_dv, den_sh, den_cv, den_mx, den_mn, den_sel, bden_c, bden_x, bden_t, bden_cmp, bden_not, bden_and, bden_eqb, cmpI, arI, dvI, shI, decide_eq_true_eq, decide_eq_false_iff_not, beq_iff_eq, beq_eq_false_iff_ne, bne_iff_ne, bne_eq_false_iff_eq, ne_eq, Bool.and_eq_true, Bool.or_eq_true, Bool.and_eq_false_iff, Bool.or_eq_false_iff, Bool.not_eq_true, Int.ofNat_eq_natCast, IntKind.wrap_i64, ncast] at qy2024
    clear hUq hR1
    try dsimp only [Shp.D, Shp.Ds, Shp.dflt] at *
    try simp only [SV.den, SV.dens, den_c, den_x, den_t, den_ar, den_bt, den_dv, den_sh, den_cv, den_mx, den_mn, den_sel, bden_c, bden_x, bden_t, bden_cmp, bden_not, bden_and, bden_eqb, cmpI, arI, dvI, shI, decide_eq_true_eq, decide_eq_false_iff_not, beq_iff_eq, beq_eq_false_iff_ne, bne_iff_ne, bne_eq_false_iff_eq, ne_eq, Bool.and_eq_true, Bool.or_eq_true, Bool.and_eq_false_iff, Bool.or_eq_false_iff, Bool.not_eq_true, Int.ofNat_eq_natCast, IntKind.wrap_i64, ncast, elemAt, convL_self] at *
    try dsimp only [Shp.D, Shp.Ds, Shp.dflt, Shp.dflts] at *
    simp only [↓reduceIte, and_true, true_and, Int.reduceEq, Int.reduceAdd, Int.reduceMul, Int.reduceMod, Int.reduceSub, Int.reduceToNat, Nat.reduceSub, Nat.reduceAdd, Nat.reduceMul, IntKind.wrap_u64, wrap_byte] at *
    rw [← qy900, ← qy2024]
    have e : zq 24 = z1 24 + 1 := by omega
    refine ⟨⟨by omega, by omega, by simp only [List.length_append, List.length_cons, List.length_nil]; omega, ?_⟩, by omega⟩
    exact parse_next p4 (by omega) hx.1 (by assumption) e
end Go.Proofs.Ytiinlanpinanhaa.V
