/- Contracts: selectors are read. -/
import Derived.Test.YtiinlanpinanhaaVNu
import Derived.Test.YtiinlanpinanhaaVH
set_option linter.unusedVariables false
set_option linter.unusedSimpArgs false
namespace Go.Proofs.Ytiinlanpinanhaa.V
open Go.RowKit
set_option maxHeartbeats 8000000
set_option maxRecDepth 100000
def addrF (b : List UInt8) : AdrT := if b.length = 4 then (4, 0, (numF b 0 4).1, ()) else (6, (numF b 0 8).1, (numF b 8 8).1, ())
def adC_t : SpecT := lf0 104 (numSp)
def adC : Cx := ⟨tt, qt, bt, st, adC_t, 0, 1000000000000000⟩
theorem adC_cx (E : Env) (h : E.ok) (h1 : E.lo = 0) (h2 : E.hi = 1000000000000000) : Cx.ok adC Try.prog E := ⟨tt_ok, qt_ok, bt_ok, (lf0_ok (wnum_sp h)), h, h1, h2, mixed_ok⟩
theorem sadr_fn : hasFn Try.prog 105 := ⟨_, Try.func105, by rfl, by rfl⟩
abbrev addrSp : Spec := fnFn [.sl .byte] [adrE] (fun _ => True) fun x => (addrF x.1, ())
theorem sadr_sp0 {E : Env} (hE : E.ok) : SpecOk Try.prog E 105 (fnSpec [.sl .byte] [adrE] [] (fun _ => True) fun x y => y.1 = addrF x.1) := by
  refine spec_of_vc (C := adC) sadr_fn Try.func105 (by kernel_rfl) adC_cx (fun x hl hx => ?_) hE
  obtain ⟨b, u⟩ := x
  cbv
  (repeat' (first | (((with_reducible refine And.intro (fun h => ?_) (fun h => ?_))) <;> (first | with_reducible exact (tf h (by assumption)).elim | with_reducible exact (tf (by assumption) h).elim | cbv)) | ((with_reducible refine Mg.mk (Exists.intro ?_ (And.intro ?_ ?_)))) | ((with_reducible refine Cb.mk ?_); cbv) | ((with_reducible refine Lz.mk ?_); cbv) | ((with_reducible refine JoinT.left ?_); cbv) | (with_reducible rfl) | ((with_reducible refine Ob.mk (fun _ => ?_) ?_); rotate_left 1) | ((with_reducible refine AllT.mk (fun x hx => ?_)); cbv) | (with_reducible refine Fin.mk ?_) | (with_reducible exact True.intro) | (with_reducible refine And.intro ?_ ?_)))
  all_goals first | (with_reducible show (∃ _, unr _ _ _ _ _ _); skip) | (with_reducible show Goes _ _ _ _; skip) | (with_reducible show JoinT _ _ _ _ _ _; skip) | (first | ((try dsimp only [Shp.D, Shp.Ds, Shp.dflt] at *); simp only [SV.den, SV.dens, den_c, den_x, den_t, den_ar, den_bt, den_dv, den_sh, den_cv, den_mx, den_mn, den_sel, bden_c, bden_x, bden_t, bden_cmp, bden_not, bden_and, bden_eqb, cmpI, arI, dvI, shI, decide_eq_true_eq, decide_eq_false_iff_not, beq_iff_eq, beq_eq_false_iff_ne, bne_iff_ne, bne_eq_false_iff_eq, ne_eq, Bool.and_eq_true, Bool.or_eq_true, Bool.and_eq_false_iff, Bool.or_eq_false_iff, Bool.not_eq_true, Int.ofNat_eq_natCast, IntKind.wrap_i64, ncast, obLt, elemAt, obApp, partL, obPart, lowD, highD, mxOk, convL_self, List.length_append, List.length_cons, List.length_nil] at *; (try dsimp only [Shp.D, Shp.Ds, Shp.dflt, Shp.dflts] at *); omega) | ((try dsimp only [Shp.D, Shp.Ds, Shp.dflt] at *); simp only [SV.den, SV.dens, den_c, den_x, den_t, den_ar, den_bt, den_dv, den_sh, den_cv, den_mx, den_mn, den_sel, bden_c, bden_x, bden_t, bden_cmp, bden_not, bden_and, bden_eqb, cmpI, arI, dvI, shI, decide_eq_true_eq, decide_eq_false_iff_not, beq_iff_eq, beq_eq_false_iff_ne, bne_iff_ne, bne_eq_false_iff_eq, ne_eq, Bool.and_eq_true, Bool.or_eq_true, Bool.and_eq_false_iff, Bool.or_eq_false_iff, Bool.not_eq_true, Int.ofNat_eq_natCast, IntKind.wrap_i64, ncast, obLt, elemAt, obApp, partL, obPart, lowD, highD, mxOk, convL_self, List.length_append, List.length_cons, List.length_nil] at *; (try dsimp only [Shp.D, Shp.Ds, Shp.dflt, Shp.dflts] at *); rw [addrF, if_pos (by omega)]; done) | ((try dsimp only [Shp.D, Shp.Ds, Shp.dflt] at *); simp only [SV.den, SV.dens, den_c, den_x, den_t, den_ar, den_bt, den_dv, den_sh, den_cv, den_mx, den_mn, den_sel, bden_c, bden_x, bden_t, bden_cmp, bden_not, bden_and, bden_eqb, cmpI, arI, dvI, shI, decide_eq_true_eq, decide_eq_false_iff_not, beq_iff_eq, beq_eq_false_iff_ne, bne_iff_ne, bne_eq_false_iff_eq, ne_eq, Bool.and_eq_true, Bool.or_eq_true, Bool.and_eq_false_iff, Bool.or_eq_false_iff, Bool.not_eq_true, Int.ofNat_eq_natCast, IntKind.wrap_i64, ncast, obLt, elemAt, obApp, partL, obPart, lowD, highD, mxOk, convL_self, List.length_append, List.length_cons, List.length_nil] at *; (try dsimp only [Shp.D, Shp.Ds, Shp.dflt, Shp.dflts] at *); rw [addrF, if_neg (by omega)]; done))
theorem sadr_sp {E : Env} (hE : E.ok) : SpecOk Try.prog E 105 addrSp := fnFn_of (sadr_sp0 hE) fun x y h => by
  obtain ⟨a, u⟩ := y
  exact congrArg (·, ()) h
/-- A selector and the bytes behind it. -/
def oneF (b : List UInt8) : Option (SelT × List UInt8) :=
  if b.length < 8 then none else
  if (b.getD 0 0).toNat = 7 then
    (if (numF b 2 2).1 = 16 ∧ 16 ≤ b.length then some (((b.getD 1 0).toNat, (numF b 4 2).1, (numF b 6 2).1, addrF ((b.drop 8).take 4), addrF ((b.drop 12).take 4), ()), b.drop 16) else none) else
  if (b.getD 0 0).toNat = 8 then
    (if (numF b 2 2).1 = 40 ∧ 40 ≤ b.length then some (((b.getD 1 0).toNat, (numF b 4 2).1, (numF b 6 2).1, addrF ((b.drop 8).take 16), addrF ((b.drop 24).take 16), ()), b.drop 40) else none)
  else none
theorem oneF_16 (b : List UInt8) (h1 : (b.getD 0 0).toNat = 7) (h2 : (numF b 2 2).1 = 16) (h3 : 16 ≤ b.length) : oneF b = some ((((b.getD 1 0).toNat : Int), (numF b 4 2).1, (numF b 6 2).1, addrF ((b.drop 8).take 4), addrF ((b.drop 12).take 4), ()), b.drop 16) := by
  rw [oneF, if_neg (by omega), if_pos h1, if_pos ⟨h2, h3⟩]
theorem oneF_40 (b : List UInt8) (h1 : (b.getD 0 0).toNat = 8) (h2 : (numF b 2 2).1 = 40) (h3 : 40 ≤ b.length) : oneF b = some ((((b.getD 1 0).toNat : Int), (numF b 4 2).1, (numF b 6 2).1, addrF ((b.drop 8).take 16), addrF ((b.drop 24).take 16), ()), b.drop 40) := by
  rw [oneF, if_neg (by omega), if_neg (by omega), if_pos h1, if_pos ⟨h2, h3⟩]
theorem oneF_none (b : List UInt8) (h : b.length < 8 ∨ ((b.getD 0 0).toNat ≠ 7 ∧ (b.getD 0 0).toNat ≠ 8) ∨ ((b.getD 0 0).toNat = 7 ∧ ((numF b 2 2).1 ≠ 16 ∨ b.length < 16)) ∨ ((b.getD 0 0).toNat = 8 ∧ ((numF b 2 2).1 ≠ 40 ∨ b.length < 40))) : oneF b = none := by
  unfold oneF
  split
  · rfl
  · split
    · rw [if_neg (by omega)]
    · split
      · rw [if_neg (by omega)]
      · rfl
theorem rest_take (b : List UInt8) (n : Nat) : List.take ((b.length : Int).toNat - n) (List.drop n b) = List.drop n b := by
  rw [List.take_of_length_le]
  rw [List.length_drop]
  omega
theorem wrap_byte (x : UInt8) : ((x.toNat : Int) + 9223372036854775808) % 18446744073709551616 - 9223372036854775808 = x.toNat := by
  have := x.toNat_lt
  omega
theorem wrap_num (l : List UInt8) (a w : Int) (hw : w ≤ 4) : ((numF l a w).1 + 9223372036854775808) % 18446744073709551616 - 9223372036854775808 = (numF l a w).1 := by
  have h1 := numF_nn l a w
  have h2 := numF_lt l a w 4 hw
  omega
abbrev shpSp : Spec := fnSpec [.int .i64] [.int .i64, .int .i64, .int .i64] [] (fun _ => True) fun x y => (y.1, y.2.1, y.2.2.1) = if x.1 = 4 then (7, 16, 4) else (8, 40, 16)
abbrev shpFn : Spec := fnFn [.int .i64] [.int .i64, .int .i64, .int .i64] (fun _ => True) fun x => if x.1 = 4 then (7, 16, 4, ()) else (8, 40, 16, ())
theorem shapeF_sp {E : Env} (hE : E.ok) : SpecOk Try.prog E 70 shpFn := fnFn_of (shape_sp hE) fun x y h => by
  obtain ⟨a, b, c, u⟩ := y
  dsimp only at h ⊢
  split at h <;> rename_i h1
  · rw [if_pos h1]; injection h with h1 h2; injection h2 with h2 h3; subst h1 h2 h3; rfl
  · rw [if_neg h1]; injection h with h1 h2; injection h2 with h2 h3; subst h1 h2 h3; rfl
def onC_t : SpecT := nd0 104 (lf0 70 (shpFn)) (nd0 105 (lf0 104 (numSp)) (lf0 105 (addrSp)))
def onC : Cx := ⟨tt, qt, bt, st, onC_t, 0, 1000000000000000⟩
theorem onC_cx (E : Env) (h : E.ok) (h1 : E.lo = 0) (h2 : E.hi = 1000000000000000) : Cx.ok onC Try.prog E := ⟨tt_ok, qt_ok, bt_ok, (nd0_ok (lf0_ok (shapeF_sp h)) (nd0_ok (lf0_ok (wnum_sp h)) (lf0_ok (sadr_sp h)))), h, h1, h2, mixed_ok⟩
theorem one_fn : hasFn Try.prog 80 := ⟨_, Try.func80, by rfl, by rfl⟩
abbrev oneSp : Spec := fnSpecT [.sl .byte] [none] [selE, .sl .byte, .bool] [.sh] [0] (fun _ => True) fun x y => match oneF x.1 with
  | some (s, r) => y = (s, r, true, ())
  | none => y.2.2.1 = false
theorem one_sp {E : Env} (hE : E.ok) : SpecOk Try.prog E 80 oneSp := by
  refine spec_of_vcT (C := onC) one_fn Try.func80 (by kernel_rfl) onC_cx (fun x hl hx => ?_) hE
  obtain ⟨b, u⟩ := x
  have hlen : b.length ≤ 140737488355328 := by simp only [Shp.lims, Shp.lim] at hl; exact hl.1.1
  cbv
  (repeat' (first | (((with_reducible refine And.intro (fun h => ?_) (fun h => ?_))) <;> (first | with_reducible exact (tf h (by assumption)).elim | with_reducible exact (tf (by assumption) h).elim | cbv)) | ((with_reducible refine Mg.mk (Exists.intro ?_ (And.intro ?_ ?_)))) | ((with_reducible refine Cb.mk ?_); cbv) | ((with_reducible refine Lz.mk ?_); cbv) | ((with_reducible refine JoinT.left ?_); cbv) | (with_reducible rfl) | ((with_reducible refine Ob.mk (fun _ => ?_) ?_); rotate_left 1) | ((with_reducible refine AllT.mk (fun x hx => ?_)); cbv) | (with_reducible refine Fin.mk ?_) | (with_reducible exact True.intro) | (with_reducible refine And.intro ?_ ?_)))
  all_goals first | (with_reducible show (∃ _, unr _ _ _ _ _ _); skip) | (with_reducible show Goes _ _ _ _; skip) | (with_reducible show JoinT _ _ _ _ _ _; skip) | (first | ((try dsimp only [Shp.D, Shp.Ds, Shp.dflt] at *); simp only [SV.den, SV.dens, den_c, den_x, den_t, den_ar, den_bt, den_dv, den_sh, den_cv, den_mx, den_mn, den_sel, bden_c, bden_x, bden_t, bden_cmp, bden_not, bden_and, bden_eqb, cmpI, arI, dvI, shI, decide_eq_true_eq, decide_eq_false_iff_not, beq_iff_eq, beq_eq_false_iff_ne, bne_iff_ne, bne_eq_false_iff_eq, ne_eq, Bool.and_eq_true, Bool.or_eq_true, Bool.and_eq_false_iff, Bool.or_eq_false_iff, Bool.not_eq_true, Int.ofNat_eq_natCast, IntKind.wrap_i64, ncast, obLt, elemAt, obApp, partL, obPart, lowD, highD, mxOk, convL_self, List.length_append, List.length_cons, List.length_nil] at *; (try dsimp only [Shp.D, Shp.Ds, Shp.dflt, Shp.dflts] at *); omega) | ((try dsimp only [Shp.D, Shp.Ds, Shp.dflt] at *); simp only [SV.den, SV.dens, den_c, den_x, den_t, den_ar, den_bt, den_dv, den_sh, den_cv, den_mx, den_mn, den_sel, bden_c, bden_x, bden_t, bden_cmp, bden_not, bden_and, bden_eqb, cmpI, arI, dvI, shI, decide_eq_true_eq, decide_eq_false_iff_not, beq_iff_eq, beq_eq_false_iff_ne, bne_iff_ne, bne_eq_false_iff_eq, ne_eq, Bool.and_eq_true, Bool.or_eq_true, Bool.and_eq_false_iff, Bool.or_eq_false_iff, Bool.not_eq_true, Int.ofNat_eq_natCast, IntKind.wrap_i64, ncast, obLt, elemAt, obApp, partL, obPart, lowD, highD, mxOk, convL_self, List.length_append, List.length_cons, List.length_nil] at *; (try dsimp only [Shp.D, Shp.Ds, Shp.dflt, Shp.dflts] at *); (try simp only [↓reduceIte, and_true, true_and, Int.reduceEq, Int.reduceAdd, Int.reduceMul, Int.reduceMod, Int.reduceSub, Int.reduceToNat, Nat.reduceSub, Nat.reduceAdd, Nat.reduceMul, IntKind.wrap_u64] at *); first | omega | (rw [oneF_none _ (by omega)]; trivial) | (rw [oneF_16 _ (by omega) (by omega) (by omega)]; simp only [wrap_byte, wrap_num _ _ _ (show (2 : Int) ≤ 4 by decide), rest_take]; (try rfl); done) | (rw [oneF_40 _ (by omega) (by omega) (by omega)]; simp only [wrap_byte, wrap_num _ _ _ (show (2 : Int) ≤ 4 by decide), rest_take]; (try rfl); done)))
end Go.Proofs.Ytiinlanpinanhaa.V
