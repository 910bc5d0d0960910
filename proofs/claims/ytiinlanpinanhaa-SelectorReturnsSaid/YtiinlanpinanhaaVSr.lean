/- Contracts: lists of selectors are read by the document's answer. -/
import Derived.Test.YtiinlanpinanhaaVSq
set_option linter.unusedVariables false
set_option linter.unusedSimpArgs false
namespace Go.Proofs.Ytiinlanpinanhaa.V
open Go.RowKit
set_option maxHeartbeats 8000000
set_option maxRecDepth 100000
abbrev rsizeFn : Spec := fnFn [.int .i64] [.int .i64] (fun _ => True) fun x => (if x.1 = 4 then 4 else 16, ())
theorem rsizeF_sp {E : Env} (hE : E.ok) : SpecOk Try.prog E 74 rsizeFn := fnFn_of (rsize_sp hE) fun x y h => by
  obtain ⟨a, u⟩ := y
  exact congrArg (·, ()) h
def getF (b : List UInt8) (a f : Int) : AdrT × Bool := if f = 4 then ((4, 0, (numF b a 4).1, ()), (numF b a 4).2) else ((6, (numF b a 8).1, (numF b (a + 8) 8).1, ()), (numF b a 8).2 && (numF b (a + 8) 8).2)
def geC_t : SpecT := lf0 81 (numSp)
def geC : Cx := ⟨tt, qt, bt, st, geC_t, 0, 1000000000000000⟩
theorem geC_cx (E : Env) (h : E.ok) (h1 : E.lo = 0) (h2 : E.hi = 1000000000000000) : Cx.ok geC Try.prog E := ⟨tt_ok, qt_ok, bt_ok, (lf0_ok (rnum_sp h)), h, h1, h2, mixed_ok⟩
abbrev getSp : Spec := fnFn [.sl .byte, .int .i64, .int .i64] [adrE, .bool] (fun x => 0 ≤ x.2.1 ∧ x.2.1 ≤ 1000000000000000000) fun x => ((getF x.1 x.2.1 x.2.2.1).1, (getF x.1 x.2.1 x.2.2.1).2, ())
theorem rget_fn : hasFn Try.prog 82 := ⟨_, Try.func82, by rfl, by rfl⟩
theorem rget_sp0 {E : Env} (hE : E.ok) : SpecOk Try.prog E 82 (fnSpec [.sl .byte, .int .i64, .int .i64] [adrE, .bool] [] (fun x => 0 ≤ x.2.1 ∧ x.2.1 ≤ 1000000000000000000) fun x y => y = ((getF x.1 x.2.1 x.2.2.1).1, (getF x.1 x.2.1 x.2.2.1).2, ())) := by
  refine spec_of_vc (C := geC) rget_fn Try.func82 (by kernel_rfl) geC_cx (fun x hl hx => ?_) hE
  obtain ⟨b, a, f, u⟩ := x
  dsimp only [Shp.D, Shp.Ds, Shp.dflt] at hx
  cbv
  (repeat' (first | (((with_reducible refine And.intro (fun h => ?_) (fun h => ?_))) <;> (first | with_reducible exact (tf h (by assumption)).elim | with_reducible exact (tf (by assumption) h).elim | cbv)) | ((with_reducible refine Mg.mk (Exists.intro ?_ (And.intro ?_ ?_)))) | ((with_reducible refine Cb.mk ?_); cbv) | ((with_reducible refine Lz.mk ?_); cbv) | ((with_reducible refine JoinT.left ?_); cbv) | (with_reducible rfl) | ((with_reducible refine Ob.mk (fun _ => ?_) ?_); rotate_left 1) | ((with_reducible refine AllT.mk (fun x hx => ?_)); cbv) | (with_reducible refine Fin.mk ?_) | (with_reducible exact True.intro) | (with_reducible refine And.intro ?_ ?_)))
  all_goals first | (with_reducible show (∃ _, unr _ _ _ _ _ _); skip) | (with_reducible show Goes _ _ _ _; skip) | (with_reducible show JoinT _ _ _ _ _ _; skip) | (((try dsimp only [Shp.D, Shp.Ds, Shp.dflt] at *); simp only [SV.den, SV.dens, den_c, den_x, den_t, den_ar, den_bt, den_dv, den_sh, den_cv, den_mx, den_mn, den_sel, bden_c, bden_x, bden_t, bden_cmp, bden_not, bden_and, bden_eqb, cmpI, arI, dvI, shI, decide_eq_true_eq, decide_eq_false_iff_not, beq_iff_eq, beq_eq_false_iff_ne, bne_iff_ne, bne_eq_false_iff_eq, ne_eq, Bool.and_eq_true, Bool.or_eq_true, Bool.and_eq_false_iff, Bool.or_eq_false_iff, Bool.not_eq_true, Int.ofNat_eq_natCast, IntKind.wrap_i64, ncast, obLt, elemAt, obApp, partL, obPart, lowD, highD, mxOk, convL_self, List.length_append, List.length_cons, List.length_nil] at *; (try dsimp only [Shp.D, Shp.Ds, Shp.dflt, Shp.dflts] at *); (try simp only [↓reduceIte, and_true, true_and, Int.reduceEq, Int.reduceAdd, Int.reduceMul, Int.reduceMod, Int.reduceSub, Int.reduceToNat, Nat.reduceSub, Nat.reduceAdd, Nat.reduceMul, IntKind.wrap_u64] at *); first | omega | (rw [getF, if_pos (by omega)]; done) | (rw [getF, if_neg (by omega)]; have e := Int.emod_eq_of_lt (a := a + 8 + 9223372036854775808) (b := 18446744073709551616) (by omega) (by omega); simp [*]; done)))
theorem rget_sp {E : Env} (hE : E.ok) : SpecOk Try.prog E 82 getSp := fnFn_of (rget_sp0 hE) fun x y h => h
theorem numF_drop (l : List UInt8) (s : Nat) (a w : Int) (hs : s ≤ l.length) (ha : 0 ≤ a) : numF (l.drop s) a w = numF l (s + a) w := by
  unfold numF
  rw [List.length_drop]
  by_cases h : 1 ≤ w ∧ w ≤ 8 ∧ 0 ≤ a ∧ a + w ≤ ((l.length - s : Nat) : Int)
  · rw [if_pos h, if_pos (by omega), List.drop_drop, show s + a.toNat = (s + a).toNat by omega]
  · rw [if_neg h, if_neg (by omega)]
theorem numF_part (l : List UInt8) (s n : Nat) (a w : Int) (hs : s + n ≤ l.length) (ha : 0 ≤ a) (hw : a + w ≤ n) : numF ((l.drop s).take n) a w = numF l (s + a) w := by
  unfold numF
  rw [List.length_take, List.length_drop]
  by_cases h : 1 ≤ w ∧ w ≤ 8 ∧ 0 ≤ a ∧ a + w ≤ ((min n (l.length - s) : Nat) : Int)
  · rw [if_pos h, if_pos (by omega), List.drop_take, List.drop_drop, List.take_take, show s + a.toNat = (s + a).toNat by omega, show min w.toNat (n - a.toNat) = w.toNat by omega]
  · rw [if_neg h, if_neg (by omega)]
theorem addrF_4 (l : List UInt8) (s : Nat) (hs : s + 4 ≤ l.length) : addrF ((l.drop s).take 4) = (getF l s 4).1 := by
  rw [addrF, if_pos (by rw [List.length_take, List.length_drop]; omega), getF, if_pos rfl, numF_part l s 4 0 4 hs (by omega) (by omega)]
  simp
theorem addrF_16 (l : List UInt8) (s : Nat) (hs : s + 16 ≤ l.length) : addrF ((l.drop s).take 16) = (getF l s 6).1 := by
  rw [addrF, if_neg (by rw [List.length_take, List.length_drop]; omega), getF, if_neg (by omega), numF_part l s 16 0 8 hs (by omega) (by omega), numF_part l s 16 8 8 hs (by omega) (by omega)]
  simp
theorem getD_dropN (l : List UInt8) (s k : Nat) : (l.drop s).getD k 0 = l.getD (s + k) 0 := by
  simp [List.getD_eq_getElem?_getD, List.getElem?_drop]
/-- A selector at a place. -/
theorem oneF_at7 (m : List UInt8) (s : Nat) (h : s + 16 ≤ m.length) (h1 : (m.getD s 0).toNat = 7) (h2 : (numF m (s + 2) 2).1 = 16) : oneF (m.drop s) = some ((((m.getD (s + 1) 0).toNat : Int), (numF m (s + 4) 2).1, (numF m (s + 6) 2).1, (getF m (s + 8) 4).1, (getF m (s + 12) 4).1, ()), m.drop (s + 16)) := by
  have e8 : addrF (((m.drop s).drop 8).take 4) = (getF m (s + 8) 4).1 := by rw [List.drop_drop]; exact addrF_4 m (s + 8) (by omega)
  have e12 : addrF (((m.drop s).drop 12).take 4) = (getF m (s + 12) 4).1 := by rw [List.drop_drop]; exact addrF_4 m (s + 12) (by omega)
  rw [oneF_16 (m.drop s) (by rw [getD_dropN]; exact h1) (by rw [numF_drop _ _ _ _ (by omega) (by omega)]; exact h2) (by rw [List.length_drop]; omega), e8, e12, numF_drop _ _ _ _ (by omega) (by omega), numF_drop _ _ _ _ (by omega) (by omega), getD_dropN, List.drop_drop]
theorem oneF_at8 (m : List UInt8) (s : Nat) (h : s + 40 ≤ m.length) (h1 : (m.getD s 0).toNat = 8) (h2 : (numF m (s + 2) 2).1 = 40) : oneF (m.drop s) = some ((((m.getD (s + 1) 0).toNat : Int), (numF m (s + 4) 2).1, (numF m (s + 6) 2).1, (getF m (s + 8) 6).1, (getF m (s + 24) 6).1, ()), m.drop (s + 40)) := by
  have e8 : addrF (((m.drop s).drop 8).take 16) = (getF m (s + 8) 6).1 := by rw [List.drop_drop]; exact addrF_16 m (s + 8) (by omega)
  have e12 : addrF (((m.drop s).drop 24).take 16) = (getF m (s + 24) 6).1 := by rw [List.drop_drop]; exact addrF_16 m (s + 24) (by omega)
  rw [oneF_40 (m.drop s) (by rw [getD_dropN]; exact h1) (by rw [numF_drop _ _ _ _ (by omega) (by omega)]; exact h2) (by rw [List.length_drop]; omega), e8, e12, numF_drop _ _ _ _ (by omega) (by omega), numF_drop _ _ _ _ (by omega) (by omega), getD_dropN, List.drop_drop]
theorem oneF_atN (m : List UInt8) (s : Nat) (hs : s ≤ m.length) (h : m.length < s + 8 ∨ ((m.getD s 0).toNat ≠ 7 ∧ (m.getD s 0).toNat ≠ 8) ∨ ((m.getD s 0).toNat = 7 ∧ ((numF m (s + 2) 2).1 ≠ 16 ∨ m.length < s + 16)) ∨ ((m.getD s 0).toNat = 8 ∧ ((numF m (s + 2) 2).1 ≠ 40 ∨ m.length < s + 40))) : oneF (m.drop s) = none := by
  have e := numF_drop m s 2 2 hs (by omega)
  have g := getD_dropN m s 0
  rw [Nat.add_zero] at g
  refine oneF_none _ ?_
  rw [e, g, List.length_drop]
  omega
theorem wrapS (s : Nat) (k : Int) (h : s ≤ 140737488355328) (h0 : 0 ≤ k) (h1 : k ≤ 1000) : ((s : Int) + k + 9223372036854775808) % 18446744073709551616 - 9223372036854775808 = s + k := by omega
theorem wrapS2 (s : Nat) (k j : Int) (h : s ≤ 140737488355328) (h0 : 0 ≤ k) (h1 : k ≤ 1000) (g0 : 0 ≤ j) (g1 : j ≤ 1000) : ((s : Int) + k + j + 9223372036854775808) % 18446744073709551616 - 9223372036854775808 = s + (k + j) := by omega
theorem parse_bad2 {m : List UInt8} {n k : Int} {l : List SelT} {b : List UInt8} {R : Option (List SelT × List UInt8)} (hP : parseF m = endF R) (h : loopF (n - k).toNat l b = R) (hk : k < n) (hb : oneF b = none) : ([], 4) = parseF m := by
  rw [hP, ← h, loopF_none _ _ _ (by omega) hb]
  rfl
theorem parse_end2 {m : List UInt8} {n k : Int} {l : List SelT} {b : List UInt8} {R : Option (List SelT × List UInt8)} (hP : parseF m = endF R) (h : loopF (n - k).toNat l b = R) (hk : n ≤ k) : parseF m = if 0 < b.length then ([], 4) else if chkAll l = 0 then (l, 0) else ([], chkAll l) := by
  rw [hP, ← h, show (n - k).toNat = 0 by omega]
  rfl
theorem parse_next2 {n k : Int} {l : List SelT} {b : List UInt8} {R : Option (List SelT × List UInt8)} (h : loopF (n - k).toNat l b = R) (hk : k < n) {x : SelT} {r : List UInt8} (hb : oneF b = some (x, r)) {j : Int} (hj : j = k + 1) : loopF (n - j).toNat (l ++ [x]) r = R := by
  rw [← h, loopF_some _ _ _ (by omega) _ _ hb, show (n - k).toNat - 1 = (n - j).toNat by omega]
theorem parse_chk {m : List UInt8} {n k : Int} {l : List SelT} {b : List UInt8} {R : Option (List SelT × List UInt8)} (hP : parseF m = endF R) (h : loopF (n - k).toNat l b = R) (hk : n ≤ k) (hb : ¬ 0 < b.length) {j : Nat} (hj : j < l.length) (hr : chkAll (l.drop j) = chkAll l) {e : Int}
    (he : e = chkSel (toSel (l.getD j (0, 0, 0, (0, 0, 0, ()), (0, 0, 0, ()), ())))) (h0 : ¬ e = 0) : ([], e) = parseF m := by
  have e1 := chkAll_drop l j hj
  rw [hr, ← he, if_neg h0] at e1
  rw [parse_end2 hP h hk, if_neg hb, e1, if_neg h0]
theorem chk_next {l : List SelT} {j : Nat} (hj : j < l.length) (hr : chkAll (l.drop j) = chkAll l) {e : Int} (he : e = chkSel (toSel (l.getD j (0, 0, 0, (0, 0, 0, ()), (0, 0, 0, ()), ())))) (h0 : e = 0) : chkAll (l.drop (j + 1)) = chkAll l := by
  have e1 := chkAll_drop l j hj
  rw [hr, ← he, if_pos h0] at e1
  exact e1.symm
def rpC_t : SpecT := nd0 81 (nd0 74 (lf0 34 (chkSp)) (lf0 74 (rsizeFn))) (nd0 82 (lf0 81 (numSp)) (lf0 82 (getSp)))
def rpC : Cx := ⟨tt, qt, bt, st, rpC_t, 0, 1000000000000000⟩
theorem rpC_cx (E : Env) (h : E.ok) (h1 : E.lo = 0) (h2 : E.hi = 1000000000000000) : Cx.ok rpC Try.prog E := ⟨tt_ok, qt_ok, bt_ok, (nd0_ok (nd0_ok (lf0_ok (rchk_sp h)) (lf0_ok (rsizeF_sp h))) (nd0_ok (lf0_ok (rnum_sp h)) (lf0_ok (rget_sp h)))), h, h1, h2, mixed_ok⟩
theorem rparse_fn : hasFn Try.prog 43 := ⟨_, Try.func43, by rfl, by rfl⟩
theorem rparse_sp {E : Env} (hE : E.ok) : SpecOk Try.prog E 43 parseSp := by
  refine spec_of_vc (C := rpC) rparse_fn Try.func43 (by kernel_rfl) rpC_cx (fun x hl hx => ?_) hE
  obtain ⟨m, u⟩ := x
  have hlen : m.length ≤ 140737488355328 := by simp only [Shp.lims, Shp.lim] at hl; exact hl.1.1
  cbv
  (repeat' (first | (((with_reducible refine And.intro (fun h => ?_) (fun h => ?_))) <;> (first | with_reducible exact (tf h (by assumption)).elim | with_reducible exact (tf (by assumption) h).elim | cbv)) | ((with_reducible refine Mg.mk (Exists.intro ?_ (And.intro ?_ ?_)))) | ((with_reducible refine Cb.mk ?_); cbv) | ((with_reducible refine Lz.mk ?_); cbv) | ((with_reducible refine JoinT.left ?_); cbv) | (with_reducible rfl) | ((with_reducible refine Ob.mk (fun _ => ?_) ?_); rotate_left 1) | ((with_reducible refine AllT.mk (fun x hx => ?_)); cbv) | (with_reducible refine Fin.mk ?_) | (with_reducible exact True.intro) | (with_reducible refine And.intro ?_ ?_)))
  all_goals first | (with_reducible show (∃ _, unr _ _ _ _ _ _); skip) | (with_reducible show Goes _ _ _ _; skip) | (with_reducible show JoinT _ _ _ _ _ _; skip) | (((try dsimp only [Shp.D, Shp.Ds, Shp.dflt] at *); simp only [SV.den, SV.dens, den_c, den_x, den_t, den_ar, den_bt, den_dv, den_sh, den_cv, den_mx, den_mn, den_sel, bden_c, bden_x, bden_t, bden_cmp, bden_not, bden_and, bden_eqb, cmpI, arI, dvI, shI, decide_eq_true_eq, decide_eq_false_iff_not, beq_iff_eq, beq_eq_false_iff_ne, bne_iff_ne, bne_eq_false_iff_eq, ne_eq, Bool.and_eq_true, Bool.or_eq_true, Bool.and_eq_false_iff, Bool.or_eq_false_iff, Bool.not_eq_true, Int.ofNat_eq_natCast, IntKind.wrap_i64, ncast, obLt, elemAt, obApp, partL, obPart, lowD, highD, mxOk, convL_self, List.length_append, List.length_cons, List.length_nil] at *; (try dsimp only [Shp.D, Shp.Ds, Shp.dflt, Shp.dflts] at *); (try simp only [↓reduceIte, and_true, true_and, Int.reduceEq, Int.reduceAdd, Int.reduceMul, Int.reduceMod, Int.reduceSub, Int.reduceToNat, Nat.reduceSub, Nat.reduceAdd, Nat.reduceMul, IntKind.wrap_u64, wrap_byte] at *); first | omega | (rw [parseF, if_pos (by omega)]; done) | (rw [parseF, if_neg (by omega), if_pos (by omega)]; done) | (rw [parseF, if_neg (by omega), if_neg (by omega), if_pos (by omega)]; done)))
  have c1 := ‹(BE.cmp BinOp.lss _ _).den = false›
  have c2 := ‹(BE.cmp BinOp.eql _ _).den = false›
  have c3 := ‹(BE.cmp BinOp.gtr _ _).den = false›
  dsimp only [Shp.D, Shp.Ds, Shp.dflt] at c1 c2 c3
  simp only [SV.den, SV.dens, den_c, den_x, den_t, den_ar, den_bt, den_dv, den_sh, den_cv, den_mx, den_mn, den_sel, bden_c, bden_x, bden_t, bden_cmp, bden_not, bden_and, bden_eqb, cmpI, arI, dvI, shI, decide_eq_true_eq, decide_eq_false_iff_not, beq_iff_eq, beq_eq_false_iff_ne, bne_iff_ne, bne_eq_false_iff_eq, ne_eq, Bool.and_eq_true, Bool.or_eq_true, Bool.and_eq_false_iff, Bool.or_eq_false_iff, Bool.not_eq_true, Int.ofNat_eq_natCast, IntKind.wrap_i64, ncast, elemAt] at c1 c2 c3
  simp only [↓reduceIte, and_true, true_and, Int.reduceEq, Int.reduceAdd, Int.reduceMul, Int.reduceMod, Int.reduceSub, Int.reduceToNat, Nat.reduceSub, Nat.reduceAdd, Nat.reduceMul, IntKind.wrap_u64, wrap_byte] at c1 c2 c3
  dsimp only [Shp.D, Shp.Ds, Shp.dflt] at c1 c2 c3
  have hP : parseF m = endF (loopF (((m.getD 0 0).toNat : Int)).toNat [] (m.drop 4)) := by rw [parseF, if_neg (by omega), if_neg (by omega), if_neg (by omega)]; rfl
  with_reducible refine loop_hv [(4, 900, 30, selE)] (catN (rangeN 7 11) (rangeN 30 108)) [] [900] (fun z b t y => 0 ≤ z 6 ∧ z 6 ≤ ((m.getD 0 0).toNat : Int) ∧ 0 ≤ z 5 ∧ z 5 ≤ (m.length : Int) ∧ ((y 900 selE).length : Int) = z 6 ∧ loopF (((m.getD 0 0).toNat : Int) - z 6).toNat (y 900 selE) (m.drop (z 5).toNat) = loopF (((m.getD 0 0).toNat : Int)).toNat [] (m.drop 4)) (fun z b t y => (((m.getD 0 0).toNat : Int) - z 6).toNat) (by cbv) (by cbv) ?_ ?_ (fun z1 b1 t1 u1 y1 R1 hP1 hR1 => ?_)
  · refine EndOk.mk (by cbv) (by cbv) (by cbv; repeat' (first | exact True.intro | exact rfl | with_reducible refine And.intro ?_ ?_)) (by cbv; repeat' (first | exact True.intro | exact rfl | with_reducible refine And.intro ?_ ?_)) (by cbv; repeat' (first | exact True.intro | exact rfl | with_reducible refine And.intro ?_ ?_))
  · intro zq bq tq yq hUq
    have q5 := hUq.z 5
    cbv at q5
    replace q5 := q5.eq
    simp only [atI, SV.den, SV.dens, den_c, den_x, den_t, den_ar, den_bt, den_dv, den_sh, den_cv, den_mx, den_mn, den_sel, bden_c, bden_x, bden_t, bden_cmp, bden_not, bden_and, bden_eqb, cmpI, arI, dvI, shI, decide_eq_true_eq, decide_eq_false_iff_not, beq_iff_eq, beq_eq_false_iff_ne, bne_iff_ne, bne_eq_false_iff_eq, ne_eq, Bool.and_eq_true, Bool.or_eq_true, Bool.and_eq_false_iff, Bool.or_eq_false_iff, Bool.not_eq_true, Int.ofNat_eq_natCast, IntKind.wrap_i64, ncast] at q5
    have q6 := hUq.z 6
    cbv at q6
    replace q6 := q6.eq
    simp only [atI, SV.den, SV.dens, den_c, den_x, den_t, den_ar, den_bt, den_dv, den_sh, den_cv, den_mx, den_mn, den_sel, bden_c, bden_x, bden_t, bden_cmp, bden_not, bden_and, bden_eqb, cmpI, arI, dvI, shI, decide_eq_true_eq, decide_eq_false_iff_not, beq_iff_eq, beq_eq_false_iff_ne, bne_iff_ne, bne_eq_false_iff_eq, ne_eq, Bool.and_eq_true, Bool.or_eq_true, Bool.and_eq_false_iff, Bool.or_eq_false_iff, Bool.not_eq_true, Int.ofNat_eq_natCast, IntKind.wrap_i64, ncast] at q6
    have qy900 := hUq.y 900 (selE)
    cbv at qy900
    replace qy900 := qy900.eq
    simp only [atY, convL_self, SV.den, SV.dens, den_c, den_x, den_t, den_ar, den_bt, den_dv, den_sh, den_cv, den_mx, den_mn, den_sel, bden_c, bden_x, bden_t, bden_cmp, bden_not, bden_and, bden_eqb, cmpI, arI, dvI, shI, decide_eq_true_eq, decide_eq_false_iff_not, beq_iff_eq, beq_eq_false_iff_ne, bne_iff_ne, bne_eq_false_iff_eq, ne_eq, Bool.and_eq_true, Bool.or_eq_true, Bool.and_eq_false_iff, Bool.or_eq_false_iff, Bool.not_eq_true, Int.ofNat_eq_natCast, IntKind.wrap_i64, ncast] at qy900
    clear hUq
    try dsimp only [Shp.D, Shp.Ds, Shp.dflt] at *
    try simp only [SV.den, SV.dens, den_c, den_x, den_t, den_ar, den_bt, den_dv, den_sh, den_cv, den_mx, den_mn, den_sel, bden_c, bden_x, bden_t, bden_cmp, bden_not, bden_and, bden_eqb, cmpI, arI, dvI, shI, decide_eq_true_eq, decide_eq_false_iff_not, beq_iff_eq, beq_eq_false_iff_ne, bne_iff_ne, bne_eq_false_iff_eq, ne_eq, Bool.and_eq_true, Bool.or_eq_true, Bool.and_eq_false_iff, Bool.or_eq_false_iff, Bool.not_eq_true, Int.ofNat_eq_natCast, IntKind.wrap_i64, ncast, convL_self] at *
    rw [← qy900, ← q5, ← q6]
    refine ⟨by omega, by omega, by omega, by omega, rfl, ?_⟩
    rw [Int.sub_zero]
    rfl
  obtain ⟨p1, p2, p3, p4, p5, p6⟩ := hP1
  obtain ⟨s, hs⟩ := Int.eq_ofNat_of_zero_le p3
  try dsimp only [Shp.D, Shp.Ds, Shp.dflt] at hlen p4 p6
  have hs2 : s ≤ m.length := by rw [hs] at p4; exact_mod_cast p4
  have hs3 : s ≤ 140737488355328 := Nat.le_trans hs2 hlen
  have w1 := wrapS s 1 hs3 (by decide) (by decide)
  have w2 := wrapS s 2 hs3 (by decide) (by decide)
  have w4 := wrapS s 4 hs3 (by decide) (by decide)
  have w6 := wrapS s 6 hs3 (by decide) (by decide)
  have w8 := wrapS s 8 hs3 (by decide) (by decide)
  have w16 := wrapS s 16 hs3 (by decide) (by decide)
  have w40 := wrapS s 40 hs3 (by decide) (by decide)
  have v4 := wrapS2 s 8 4 hs3 (by decide) (by decide) (by decide) (by decide)
  have v16 := wrapS2 s 8 16 hs3 (by decide) (by decide) (by decide) (by decide)
  have t1 : ((s : Int) + 1).toNat = s + 1 := by omega
  have wd : ((m.length : Int) - s + 9223372036854775808) % 18446744073709551616 - 9223372036854775808 = m.length - s := by omega
  cbv
  (repeat' (first | (((with_reducible refine And.intro (fun h => ?_) (fun h => ?_))) <;> (first | with_reducible exact (tf h (by assumption)).elim | with_reducible exact (tf (by assumption) h).elim | cbv)) | ((with_reducible refine Mg.mk (Exists.intro ?_ (And.intro ?_ ?_)))) | ((with_reducible refine Cb.mk ?_); cbv) | ((with_reducible refine Lz.mk ?_); cbv) | ((with_reducible refine JoinT.left ?_); cbv) | (with_reducible rfl) | ((with_reducible refine Ob.mk (fun _ => ?_) ?_); rotate_left 1) | ((with_reducible refine AllT.mk (fun x hx => ?_)); cbv) | (with_reducible refine Fin.mk ?_) | (with_reducible exact True.intro) | (with_reducible refine And.intro ?_ ?_)))
  all_goals first | (with_reducible show Goes _ _ _ _; skip) | (clear hR1)
  all_goals first | (with_reducible show (∃ _, unr _ _ _ _ _ _); skip) | (with_reducible show Goes _ _ _ _; skip) | (with_reducible show JoinT _ _ _ _ _ _; skip) | (((try dsimp only [Shp.D, Shp.Ds, Shp.dflt] at *); simp only [SV.den, SV.dens, den_c, den_x, den_t, den_ar, den_bt, den_dv, den_sh, den_cv, den_mx, den_mn, den_sel, bden_c, bden_x, bden_t, bden_cmp, bden_not, bden_and, bden_eqb, cmpI, arI, dvI, shI, decide_eq_true_eq, decide_eq_false_iff_not, beq_iff_eq, beq_eq_false_iff_ne, bne_iff_ne, bne_eq_false_iff_eq, ne_eq, Bool.and_eq_true, Bool.or_eq_true, Bool.and_eq_false_iff, Bool.or_eq_false_iff, Bool.not_eq_true, Int.ofNat_eq_natCast, IntKind.wrap_i64, ncast, obLt, elemAt, obApp, partL, obPart, lowD, highD, mxOk, convL_self, List.length_append, List.length_cons, List.length_nil] at *; (try dsimp only [Shp.D, Shp.Ds, Shp.dflt, Shp.dflts] at *); (simp only [↓reduceIte, and_true, true_and, Int.reduceEq, Int.reduceAdd, Int.reduceMul, Int.reduceMod, Int.reduceSub, Int.reduceToNat, Nat.reduceSub, Nat.reduceAdd, Nat.reduceMul, IntKind.wrap_u64, wrap_byte, wrap_num _ _ _ (show (2 : Int) ≤ 4 by decide), hs, w1, w2, w4, w6, w8, w16, w40, v4, v16, wd, t1, Int.toNat_natCast] at *); first | omega | exact parse_bad2 hP p6 (by omega) (oneF_atN m s (by omega) (by omega)) | (rw [parse_end2 hP p6 (by omega), if_pos (by rw [List.length_drop]; omega)]; done)))
  all_goals first
    | (with_reducible show Goes _ _ _ _; ((with_reducible refine hR1 _ ?_ (fun zq bq tq yq hUq => ?_)); (focus (refine EndOk.mk (by cbv) (by cbv) (by cbv; repeat' (first | exact True.intro | exact rfl | with_reducible refine And.intro ?_ ?_)) (by cbv; repeat' (first | exact True.intro | exact rfl | with_reducible refine And.intro ?_ ?_)) (by cbv; repeat' (first | exact True.intro | exact rfl | with_reducible refine And.intro ?_ ?_)))); (have q5 := hUq.z 5); (cbv at q5); (replace q5 := q5.eq); (simp only [atI, SV.den, SV.dens, den_c, den_x, den_t, den_ar, den_bt, den_dv, den_sh, den_cv, den_mx, den_mn, den_sel, bden_c, bden_x, bden_t, bden_cmp, bden_not, bden_and, bden_eqb, cmpI, arI, dvI, shI, decide_eq_true_eq, decide_eq_false_iff_not, beq_iff_eq, beq_eq_false_iff_ne, bne_iff_ne, bne_eq_false_iff_eq, ne_eq, Bool.and_eq_true, Bool.or_eq_true, Bool.and_eq_false_iff, Bool.or_eq_false_iff, Bool.not_eq_true, Int.ofNat_eq_natCast, IntKind.wrap_i64, ncast] at q5); (have q6 := hUq.z 6); (cbv at q6); (replace q6 := q6.eq); (simp only [atI, SV.den, SV.dens, den_c, den_x, den_t, den_ar, den_bt, den_dv, den_sh, den_cv, den_mx, den_mn, den_sel, bden_c, bden_x, bden_t, bden_cmp, bden_not, bden_and, bden_eqb, cmpI, arI, dvI, shI, decide_eq_true_eq, decide_eq_false_iff_not, beq_iff_eq, beq_eq_false_iff_ne, bne_iff_ne, bne_eq_false_iff_eq, ne_eq, Bool.and_eq_true, Bool.or_eq_true, Bool.and_eq_false_iff, Bool.or_eq_false_iff, Bool.not_eq_true, Int.ofNat_eq_natCast, IntKind.wrap_i64, ncast] at q6); (have qy900 := hUq.y 900 (selE)); (cbv at qy900); (replace qy900 := qy900.eq); (simp only [atY, convL_self, SV.den, SV.dens, den_c, den_x, den_t, den_ar, den_bt, den_dv, den_sh, den_cv, den_mx, den_mn, den_sel, bden_c, bden_x, bden_t, bden_cmp, bden_not, bden_and, bden_eqb, cmpI, arI, dvI, shI, decide_eq_true_eq, decide_eq_false_iff_not, beq_iff_eq, beq_eq_false_iff_ne, bne_iff_ne, bne_eq_false_iff_eq, ne_eq, Bool.and_eq_true, Bool.or_eq_true, Bool.and_eq_false_iff, Bool.or_eq_false_iff, Bool.not_eq_true, Int.ofNat_eq_natCast, IntKind.wrap_i64, ncast] at qy900); (clear hUq hR1); (try dsimp only [Shp.D, Shp.Ds, Shp.dflt] at *); (try simp only [SV.den, SV.dens, den_c, den_x, den_t, den_ar, den_bt, den_dv, den_sh, den_cv, den_mx, den_mn, den_sel, bden_c, bden_x, bden_t, bden_cmp, bden_not, bden_and, bden_eqb, cmpI, arI, dvI, shI, decide_eq_true_eq, decide_eq_false_iff_not, beq_iff_eq, beq_eq_false_iff_ne, bne_iff_ne, bne_eq_false_iff_eq, ne_eq, Bool.and_eq_true, Bool.or_eq_true, Bool.and_eq_false_iff, Bool.or_eq_false_iff, Bool.not_eq_true, Int.ofNat_eq_natCast, IntKind.wrap_i64, ncast, elemAt, convL_self] at *); (try dsimp only [Shp.D, Shp.Ds, Shp.dflt, Shp.dflts] at *)); (simp only [↓reduceIte, and_true, true_and, Int.reduceEq, Int.reduceAdd, Int.reduceMul, Int.reduceMod, Int.reduceSub, Int.reduceToNat, Nat.reduceSub, Nat.reduceAdd, Nat.reduceMul, IntKind.wrap_u64, wrap_byte, wrap_num _ _ _ (show (2 : Int) ≤ 4 by decide), hs, w1, w2, w4, w6, w8, w16, w40, v4, v16, wd, t1, Int.toNat_natCast] at *); first | (have e := oneF_at7 m s (by omega) (by omega) (by omega); refine ⟨⟨by omega, by omega, by omega, by omega, by (rw [← qy900]; simp only [List.length_append, List.length_cons, List.length_nil]; omega), ?_⟩, by omega⟩; rw [← qy900, show (zq 5).toNat = s + 16 by omega]; exact parse_next2 p6 (by omega) e (by omega)) | (have e := oneF_at8 m s (by omega) (by omega) (by omega); refine ⟨⟨by omega, by omega, by omega, by omega, by (rw [← qy900]; simp only [List.length_append, List.length_cons, List.length_nil]; omega), ?_⟩, by omega⟩; rw [← qy900, show (zq 5).toNat = s + 40 by omega]; exact parse_next2 p6 (by omega) e (by omega)) | (exfalso; omega))
    | skip
  with_reducible refine loop_hv [] (17 :: rangeN 142 15) [] [] (fun z b t y => 0 ≤ z 16 ∧ z 16 ≤ ((y1 900 selE).length : Int) ∧ chkAll ((y1 900 selE).drop (z 16).toNat) = chkAll (y1 900 selE)) (fun z b t y => (((y1 900 selE).length : Int) - z 16).toNat) (by cbv) (by cbv) ?_ ?_ (fun z2 b2 t2 u2 y2 R2 hP2 hR2 => ?_)
  · refine EndOk.mk (by cbv) (by cbv) (by cbv; repeat' (first | exact True.intro | exact rfl | with_reducible refine And.intro ?_ ?_)) (by cbv; repeat' (first | exact True.intro | exact rfl | with_reducible refine And.intro ?_ ?_)) (by cbv; repeat' (first | exact True.intro | exact rfl | with_reducible refine And.intro ?_ ?_))
  · intro zq bq tq yq hUq
    have q16 := hUq.z 16
    cbv at q16
    replace q16 := q16.eq
    simp only [atI, SV.den, SV.dens, den_c, den_x, den_t, den_ar, den_bt, den_dv, den_sh, den_cv, den_mx, den_mn, den_sel, bden_c, bden_x, bden_t, bden_cmp, bden_not, bden_and, bden_eqb, cmpI, arI, dvI, shI, decide_eq_true_eq, decide_eq_false_iff_not, beq_iff_eq, beq_eq_false_iff_ne, bne_iff_ne, bne_eq_false_iff_eq, ne_eq, Bool.and_eq_true, Bool.or_eq_true, Bool.and_eq_false_iff, Bool.or_eq_false_iff, Bool.not_eq_true, Int.ofNat_eq_natCast, IntKind.wrap_i64, ncast] at q16
    clear hUq
    try dsimp only [Shp.D, Shp.Ds, Shp.dflt] at *
    try simp only [SV.den, SV.dens, den_c, den_x, den_t, den_ar, den_bt, den_dv, den_sh, den_cv, den_mx, den_mn, den_sel, bden_c, bden_x, bden_t, bden_cmp, bden_not, bden_and, bden_eqb, cmpI, arI, dvI, shI, decide_eq_true_eq, decide_eq_false_iff_not, beq_iff_eq, beq_eq_false_iff_ne, bne_iff_ne, bne_eq_false_iff_eq, ne_eq, Bool.and_eq_true, Bool.or_eq_true, Bool.and_eq_false_iff, Bool.or_eq_false_iff, Bool.not_eq_true, Int.ofNat_eq_natCast, IntKind.wrap_i64, ncast, convL_self] at *
    rw [← q16]
    exact ⟨by omega, by omega, rfl⟩
  obtain ⟨r1, r2, r3⟩ := hP2
  cbv
  (repeat' (first | (((with_reducible refine And.intro (fun h => ?_) (fun h => ?_))) <;> (first | with_reducible exact (tf h (by assumption)).elim | with_reducible exact (tf (by assumption) h).elim | cbv)) | ((with_reducible refine Mg.mk (Exists.intro ?_ (And.intro ?_ ?_)))) | ((with_reducible refine Cb.mk ?_); cbv) | ((with_reducible refine Lz.mk ?_); cbv) | ((with_reducible refine JoinT.left ?_); cbv) | (with_reducible rfl) | ((with_reducible refine Ob.mk (fun _ => ?_) ?_); rotate_left 1) | ((with_reducible refine AllT.mk (fun x hx => ?_)); cbv) | (with_reducible refine Fin.mk ?_) | (with_reducible exact True.intro) | (with_reducible refine And.intro ?_ ?_)))
  all_goals first | (with_reducible show Goes _ _ _ _; skip) | (clear hR2)
  all_goals first | (with_reducible show (∃ _, unr _ _ _ _ _ _); skip) | (with_reducible show Goes _ _ _ _; skip) | (with_reducible show JoinT _ _ _ _ _ _; skip) | (((try dsimp only [Shp.D, Shp.Ds, Shp.dflt] at *); simp only [SV.den, SV.dens, den_c, den_x, den_t, den_ar, den_bt, den_dv, den_sh, den_cv, den_mx, den_mn, den_sel, bden_c, bden_x, bden_t, bden_cmp, bden_not, bden_and, bden_eqb, cmpI, arI, dvI, shI, decide_eq_true_eq, decide_eq_false_iff_not, beq_iff_eq, beq_eq_false_iff_ne, bne_iff_ne, bne_eq_false_iff_eq, ne_eq, Bool.and_eq_true, Bool.or_eq_true, Bool.and_eq_false_iff, Bool.or_eq_false_iff, Bool.not_eq_true, Int.ofNat_eq_natCast, IntKind.wrap_i64, ncast, obLt, elemAt, obApp, partL, obPart, lowD, highD, mxOk, convL_self, List.length_append, List.length_cons, List.length_nil] at *; (try dsimp only [Shp.D, Shp.Ds, Shp.dflt, Shp.dflts] at *); (try simp only [↓reduceIte, and_true, true_and, Int.reduceEq, Int.reduceAdd, Int.reduceMul, Int.reduceMod, Int.reduceSub, Int.reduceToNat, Nat.reduceSub, Nat.reduceAdd, Nat.reduceMul, IntKind.wrap_u64, wrap_byte, hs, Int.toNat_natCast] at *); first | omega | (exact parse_chk hP p6 (by omega) (by rw [List.length_drop]; omega) (by omega) r3 hx.1 (by assumption)) | (rw [List.drop_eq_nil_of_le (by omega)] at r3; rw [parse_end2 hP p6 (by omega), if_neg (by rw [List.length_drop]; omega), if_pos (show chkAll (y1 900 selE) = 0 from r3.symm)]; done)))
  with_reducible refine hR2 _ ?_ (fun zq bq tq yq hUq => ?_)
  · refine EndOk.mk (by cbv) (by cbv) (by cbv; repeat' (first | exact True.intro | exact rfl | with_reducible refine And.intro ?_ ?_)) (by cbv; repeat' (first | exact True.intro | exact rfl | with_reducible refine And.intro ?_ ?_)) (by cbv; repeat' (first | exact True.intro | exact rfl | with_reducible refine And.intro ?_ ?_))
  have q16 := hUq.z 16
  cbv at q16
  replace q16 := q16.eq
  simp only [atI, SV.den, SV.dens, den_c, den_x, den_t, den_ar, den_bt, den_dv, den_sh, den_cv, den_mx, den_mn, den_sel, bden_c, bden_x, bden_t, bden_cmp, bden_not, bden_and, bden_eqb, cmpI, arI, dvI, shI, decide_eq_true_eq, decide_eq_false_iff_not, beq_iff_eq, beq_eq_false_iff_ne, bne_iff_ne, bne_eq_false_iff_eq, ne_eq, Bool.and_eq_true, Bool.or_eq_true, Bool.and_eq_false_iff, Bool.or_eq_false_iff, Bool.not_eq_true, Int.ofNat_eq_natCast, IntKind.wrap_i64, ncast] at q16
  clear hUq hR2
  try dsimp only [Shp.D, Shp.Ds, Shp.dflt] at *
  try simp only [SV.den, SV.dens, den_c, den_x, den_t, den_ar, den_bt, den_dv, den_sh, den_cv, den_mx, den_mn, den_sel, bden_c, bden_x, bden_t, bden_cmp, bden_not, bden_and, bden_eqb, cmpI, arI, dvI, shI, decide_eq_true_eq, decide_eq_false_iff_not, beq_iff_eq, beq_eq_false_iff_ne, bne_iff_ne, bne_eq_false_iff_eq, ne_eq, Bool.and_eq_true, Bool.or_eq_true, Bool.and_eq_false_iff, Bool.or_eq_false_iff, Bool.not_eq_true, Int.ofNat_eq_natCast, IntKind.wrap_i64, ncast, elemAt, convL_self] at *
  try dsimp only [Shp.D, Shp.Ds, Shp.dflt, Shp.dflts] at *
  try dsimp only [Shp.D, Shp.Ds, Shp.dflt] at *
  try simp only [SV.den, SV.dens, den_c, den_x, den_t, den_ar, den_bt, den_dv, den_sh, den_cv, den_mx, den_mn, den_sel, bden_c, bden_x, bden_t, bden_cmp, bden_not, bden_and, bden_eqb, cmpI, arI, dvI, shI, decide_eq_true_eq, decide_eq_false_iff_not, beq_iff_eq, beq_eq_false_iff_ne, bne_iff_ne, bne_eq_false_iff_eq, ne_eq, Bool.and_eq_true, Bool.or_eq_true, Bool.and_eq_false_iff, Bool.or_eq_false_iff, Bool.not_eq_true, Int.ofNat_eq_natCast, IntKind.wrap_i64, ncast, convL_self] at *
  have hlt : z2 16 < ((y1 900 selE).length : Int) := by assumption
  refine ⟨⟨by omega, by omega, ?_⟩, by omega⟩
  rw [show (zq 16).toNat = (z2 16).toNat + 1 by omega]
  exact chk_next (by omega) r3 hx.1 (by assumption)
end Go.Proofs.Ytiinlanpinanhaa.V
