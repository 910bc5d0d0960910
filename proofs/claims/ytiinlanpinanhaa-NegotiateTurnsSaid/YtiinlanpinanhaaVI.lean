/- Contracts: lists of selectors are built. -/
import Derived.Test.YtiinlanpinanhaaVH
import Derived.Test.YtiinlanpinanhaaVG
set_option linter.unusedVariables false
set_option linter.unusedSimpArgs false
namespace Go.Proofs.Ytiinlanpinanhaa.V
open Go.RowKit
set_option maxHeartbeats 8000000
set_option maxRecDepth 100000
/-- The bytes of a selector. -/
def selrB (s : SelT) : List UInt8 := [toB (if (toSel s).lo.fam = 4 then 7 else 8), toB (IntKind.u8.wrap (toSel s).pr)] ++ (putF (IntKind.u64.wrap (if (toSel s).lo.fam = 4 then 16 else 40)) 2 ++ (putF (IntKind.u64.wrap (toSel s).pl) 2 ++ (putF (IntKind.u64.wrap (toSel s).ph) 2 ++ (adrB (toSel s).lo ++ adrB (toSel s).hi))))
def selrsB : List SelT → List UInt8
  | [] => []
  | s :: l => selrB s ++ selrsB l
abbrev selD : SelT := (0, 0, 0, (0, 0, 0, ()), (0, 0, 0, ()), ())
theorem putF_length (v : Int) (w : Int) (h : 1 ≤ w ∧ w ≤ 8) : ((putF v w).length : Int) = w := by rw [putF, if_pos h, putB_length]; omega
theorem selrB_length (s : SelT) : (selrB s).length ≤ 40 := by
  have h1 := putF_length (IntKind.u64.wrap (if (toSel s).lo.fam = 4 then 16 else 40)) 2 (by omega)
  have h2 := putF_length (IntKind.u64.wrap (toSel s).pl) 2 (by omega)
  have h3 := putF_length (IntKind.u64.wrap (toSel s).ph) 2 (by omega)
  have h4 := adrB_length (toSel s).lo
  have h5 := adrB_length (toSel s).hi
  unfold selrB
  simp only [List.length_append, List.length_cons, List.length_nil]
  omega
theorem selrsB_length : ∀ l : List SelT, (selrsB l).length ≤ 40 * l.length
  | [] => by simp [selrsB]
  | s :: l => by
    have h1 := selrB_length s
    have h2 := selrsB_length l
    simp only [selrsB, List.length_append, List.length_cons]
    omega
theorem selrsB_drop (l : List SelT) (k : Nat) (h : k < l.length) : selrsB (l.drop k) = selrB (l.getD k selD) ++ selrsB (l.drop (k + 1)) := by
  rw [List.drop_eq_getElem_cons h, selrsB, List.getD_eq_getElem?_getD, List.getElem?_eq_getElem h]
  rfl
theorem selrB_eq (s : SelT) (k : Int × Int × Int) (h : k = if s.2.2.2.1.1 = 4 then (7, 16, 4) else (8, 40, 16)) (y r : List UInt8) :
    y ++ [toB (IntKind.u8.wrap k.1), toB (IntKind.u8.wrap s.1)] ++ putF (IntKind.u64.wrap k.2.1) 2 ++ putF (IntKind.u64.wrap s.2.1) 2 ++ putF (IntKind.u64.wrap s.2.2.1) 2 ++ adrB (toAdr s.2.2.2.1) ++ adrB (toAdr s.2.2.2.2.1) ++ r = y ++ (selrB s ++ r) := by
  subst h
  simp only [List.append_assoc, List.cons_append, List.nil_append, selrB, toSel]
  by_cases h4 : s.2.2.2.1.1 = 4
  · simp only [toAdr, h4, if_true]; rfl
  · simp only [toAdr, h4, if_false]; rfl
/-- The bytes, or what is wrong. -/
def buildF (l : List SelT) : List UInt8 × Int :=
  if l.length = 0 then ([], 8) else if 16 < l.length then ([], 10) else if chkAll l ≠ 0 then ([], chkAll l) else (toB (IntKind.u8.wrap l.length) :: 0 :: 0 :: 0 :: selrsB l, 0)
abbrev buildSp : Spec := fnSpec [.sl selE] [.sl .byte, .int .i64] [5] (fun _ => True) fun x y => (y.1, y.2.1) = buildF x.1
abbrev shapeSp : Spec := fnSpec [.int .i64] [.int .i64, .int .i64, .int .i64] [] (fun _ => True) fun x y => (y.1, y.2.1, y.2.2.1) = if x.1 = 4 then (7, 16, 4) else (8, 40, 16)
def sbC_t : SpecT := nd0 71 (nd0 70 (lf0 69 (fnSpec [.sl selE] [.int .i64] [] (fun _ => True) (fun x y => y.1 = chkAll x.1))) (lf0 70 (shapeSp))) (nd0 72 (lf0 71 (fnSpecT putAs [some 5, none, none] [.sl .byte] [.own 5] [] putPre putPost)) (lf0 72 (fnSpecT [.sl .byte, adrE] [some 5, none] [.sl .byte] [.own 5] [] paPre paPost)))
def sbC : Cx := ⟨tt, qt, bt, st, sbC_t, 0, 1000000000000000, fun _ => none, false⟩
theorem sbC_si {E : Env} (h : E.ok) : SpecsOk Try.prog E sbC_t (fun _ => none) := ⟨(nd0_ok (nd0_ok (lf0_ok (sca_sp h)) (lf0_ok (shape_sp h))) (nd0_ok (lf0_ok (wput_sp h)) (lf0_ok (pa_sp h)))), noI_ok _ _⟩
theorem sbC_cx (E : Env) (h : E.ok) (h1 : E.lo = 0) (h2 : E.hi = 1000000000000000) : Cx.ok sbC Try.prog E := ⟨tt_ok, qt_ok, bt_ok, sbC_si h, h, h1, h2, mixed_ok⟩
theorem sbC_from (lo hi : Nat) (E : Env) (h : E.ok) (h1 : E.lo = lo) (h2 : E.hi = hi) : Cx.ok (Cx.from sbC lo hi) Try.prog E := ⟨tt_ok, qt_ok, bt_ok, sbC_si h, h, h1, h2, mixed_ok⟩
theorem sbuild_fn : hasFn Try.prog 30 := ⟨_, Try.func30, by rfl, by rfl⟩
theorem sbuild_sp {E : Env} (hE : E.ok) : SpecOk Try.prog E 30 buildSp := by
  refine spec_of_vc (C := sbC) sbuild_fn Try.func30 (by kernel_rfl) sbC_cx (fun x hl hx => ?_) hE
  obtain ⟨l, u⟩ := x
  have hlen : l.length ≤ 140737488355328 := by simp only [Shp.lims, Shp.lim] at hl; exact hl.1.1
  cbv
  (repeat' (first | (((with_reducible refine And.intro (fun h => ?_) (fun h => ?_))) <;> (first | with_reducible exact (tf h (by assumption)).elim | with_reducible exact (tf (by assumption) h).elim | cbv)) | ((with_reducible refine Mg.mk (Exists.intro ?_ (And.intro ?_ ?_)))) | ((with_reducible refine Cb.mk ?_); cbv) | ((with_reducible refine Lz.mk ?_); cbv) | ((with_reducible refine JoinT.left ?_); cbv) | (with_reducible rfl) | ((with_reducible refine Ob.mk (fun _ => ?_) ?_); rotate_left 1) | ((with_reducible refine AllT.mk (fun x hx => ?_)); cbv) | (with_reducible refine Fin.mk ?_) | (with_reducible exact True.intro) | (with_reducible refine And.intro ?_ ?_)))
  all_goals first | (with_reducible show (∃ _, unr _ _ _ _ _ _); skip) | (with_reducible show Goes _ _ _ _; skip) | (with_reducible show JoinT _ _ _ _ _ _; skip) | ((try dsimp only [Shp.D, Shp.Ds, Shp.dflt] at *); simp only [SV.den, SV.dens, den_c, den_x, den_t, den_ar, den_bt, den_dv, den_sh, den_cv, den_mx, den_mn, den_sel, bden_c, bden_x, bden_t, bden_cmp, bden_not, bden_and, bden_eqb, cmpI, arI, dvI, shI, decide_eq_true_eq, decide_eq_false_iff_not, beq_iff_eq, beq_eq_false_iff_ne, bne_iff_ne, bne_eq_false_iff_eq, ne_eq, Bool.and_eq_true, Bool.or_eq_true, Bool.and_eq_false_iff, Bool.or_eq_false_iff, Bool.not_eq_true, Int.ofNat_eq_natCast, IntKind.wrap_i64, ncast, obLt, elemAt, obApp, partL, obPart, lowD, highD, mxOk, convL_self, List.length_append, List.length_cons, List.length_nil] at *; (try dsimp only [Shp.D, Shp.Ds, Shp.dflt, Shp.dflts] at *); unfold buildF; (repeat' split) <;> first | rfl | (exfalso; omega) | (simp_all; done) | (exfalso; simp_all; omega))
  with_reducible refine loop_hv [(5, 900, 5, .byte)] (27 :: rangeN 31 44) [] [900] (fun z b t y => 0 ≤ z 30 ∧ z 30 ≤ (l.length : Int) ∧ ((y 900 .byte).length : Int) ≤ 4 + 100 * z 30 ∧ y 900 .byte ++ selrsB (l.drop (z 30).toNat) = toB (IntKind.u8.wrap l.length) :: 0 :: 0 :: 0 :: selrsB l) (fun z b t y => ((l.length : Int) - z 30).toNat) (by cbv) (by cbv) ?_ ?_ (fun z1 b1 t1 u1 y1 R1 hP1 hR1 => ?_)
  · refine EndOk.mk (by cbv) (by cbv) (by cbv; repeat' (first | exact True.intro | exact rfl | with_reducible refine And.intro ?_ ?_)) (by cbv; repeat' (first | exact True.intro | exact rfl | with_reducible refine And.intro ?_ ?_)) (by cbv; repeat' (first | exact True.intro | exact rfl | with_reducible refine And.intro ?_ ?_))
  · intro zq bq tq yq hUq
    have q30 := hUq.z 30
    cbv at q30
    replace q30 := q30.eq
    simp only [atI, SV.den, SV.dens, den_c, den_x, den_t, den_ar, den_bt, den_dv, den_sh, den_cv, den_mx, den_mn, den_sel, bden_c, bden_x, bden_t, bden_cmp, bden_not, bden_and, bden_eqb, cmpI, arI, dvI, shI, decide_eq_true_eq, decide_eq_false_iff_not, beq_iff_eq, beq_eq_false_iff_ne, bne_iff_ne, bne_eq_false_iff_eq, ne_eq, Bool.and_eq_true, Bool.or_eq_true, Bool.and_eq_false_iff, Bool.or_eq_false_iff, Bool.not_eq_true, Int.ofNat_eq_natCast, IntKind.wrap_i64, ncast] at q30
    have qy900 := hUq.y 900 (.byte)
    cbv at qy900
    replace qy900 := qy900.eq
    simp only [atY, convL_self, SV.den, SV.dens, den_c, den_x, den_t, den_ar, den_bt, den_dv, den_sh, den_cv, den_mx, den_mn, den_sel, bden_c, bden_x, bden_t, bden_cmp, bden_not, bden_and, bden_eqb, cmpI, arI, dvI, shI, decide_eq_true_eq, decide_eq_false_iff_not, beq_iff_eq, beq_eq_false_iff_ne, bne_iff_ne, bne_eq_false_iff_eq, ne_eq, Bool.and_eq_true, Bool.or_eq_true, Bool.and_eq_false_iff, Bool.or_eq_false_iff, Bool.not_eq_true, Int.ofNat_eq_natCast, IntKind.wrap_i64, ncast] at qy900
    clear hUq
    try dsimp only [Shp.D, Shp.Ds, Shp.dflt] at *
    try simp only [SV.den, SV.dens, den_c, den_x, den_t, den_ar, den_bt, den_dv, den_sh, den_cv, den_mx, den_mn, den_sel, bden_c, bden_x, bden_t, bden_cmp, bden_not, bden_and, bden_eqb, cmpI, arI, dvI, shI, decide_eq_true_eq, decide_eq_false_iff_not, beq_iff_eq, beq_eq_false_iff_ne, bne_iff_ne, bne_eq_false_iff_eq, ne_eq, Bool.and_eq_true, Bool.or_eq_true, Bool.and_eq_false_iff, Bool.or_eq_false_iff, Bool.not_eq_true, Int.ofNat_eq_natCast, IntKind.wrap_i64, ncast, convL_self] at *
    rw [← qy900, ← q30]
    exact ⟨by omega, by omega, by simp, rfl⟩
  obtain ⟨p1, p2, p4, p3⟩ := hP1
  cbv
  (repeat' (first | (((with_reducible refine And.intro (fun h => ?_) (fun h => ?_))) <;> (first | with_reducible exact (tf h (by assumption)).elim | with_reducible exact (tf (by assumption) h).elim | cbv)) | ((with_reducible refine Mg.mk (Exists.intro ?_ (And.intro ?_ ?_)))) | ((with_reducible refine Cb.mk ?_); cbv) | ((with_reducible refine Lz.mk ?_); cbv) | ((with_reducible refine JoinT.left ?_); cbv) | (with_reducible rfl) | ((with_reducible refine Ob.mk (fun _ => ?_) ?_); rotate_left 1) | ((with_reducible refine AllT.mk (fun x hx => ?_)); cbv) | (with_reducible refine Fin.mk ?_) | (with_reducible exact True.intro) | (with_reducible refine And.intro ?_ ?_)))
  all_goals first | (with_reducible show (∃ _, unr _ _ _ _ _ _); skip) | (with_reducible show Goes _ _ _ _; skip) | (with_reducible show JoinT _ _ _ _ _ _; skip) | (first | (((try dsimp only [Shp.D, Shp.Ds, Shp.dflt] at *); simp only [SV.den, SV.dens, den_c, den_x, den_t, den_ar, den_bt, den_dv, den_sh, den_cv, den_mx, den_mn, den_sel, bden_c, bden_x, bden_t, bden_cmp, bden_not, bden_and, bden_eqb, cmpI, arI, dvI, shI, decide_eq_true_eq, decide_eq_false_iff_not, beq_iff_eq, beq_eq_false_iff_ne, bne_iff_ne, bne_eq_false_iff_eq, ne_eq, Bool.and_eq_true, Bool.or_eq_true, Bool.and_eq_false_iff, Bool.or_eq_false_iff, Bool.not_eq_true, Int.ofNat_eq_natCast, IntKind.wrap_i64, ncast, obLt, elemAt, obApp, partL, obPart, lowD, highD, mxOk, convL_self, List.length_append, List.length_cons, List.length_nil] at *; (try dsimp only [Shp.D, Shp.Ds, Shp.dflt, Shp.dflts] at *)) <;> (try simp only [Shp.lims, Shp.lim, IntKind.wrap_u64, IntKind.wrap_u8] at *) <;> omega) | skip)
  all_goals first
    | (with_reducible show Goes _ _ _ _; skip)
    | (refine ⟨4, ?_⟩; (cbv; (repeat' (first | (((with_reducible refine And.intro (fun h => ?_) (fun h => ?_))) <;> (first | with_reducible exact (tf h (by assumption)).elim | with_reducible exact (tf (by assumption) h).elim | cbv)) | ((with_reducible refine Mg.mk (Exists.intro ?_ (And.intro ?_ ?_)))) | ((with_reducible refine Cb.mk ?_); cbv) | ((with_reducible refine Lz.mk ?_); cbv) | ((with_reducible refine JoinT.left ?_); cbv) | (with_reducible rfl) | ((with_reducible refine Ob.mk (fun _ => ?_) ?_); rotate_left 1) | ((with_reducible refine AllT.mk (fun x hx => ?_)); cbv) | (with_reducible refine Fin.mk ?_) | (with_reducible exact True.intro) | (with_reducible refine And.intro ?_ ?_)))))
    | skip
  all_goals first | (with_reducible show (∃ _, unr _ _ _ _ _ _); skip) | (with_reducible show Goes _ _ _ _; skip) | (with_reducible show JoinT _ _ _ _ _ _; skip) | (first | ((((try dsimp only [Shp.D, Shp.Ds, Shp.dflt] at *); simp only [SV.den, SV.dens, den_c, den_x, den_t, den_ar, den_bt, den_dv, den_sh, den_cv, den_mx, den_mn, den_sel, bden_c, bden_x, bden_t, bden_cmp, bden_not, bden_and, bden_eqb, cmpI, arI, dvI, shI, decide_eq_true_eq, decide_eq_false_iff_not, beq_iff_eq, beq_eq_false_iff_ne, bne_iff_ne, bne_eq_false_iff_eq, ne_eq, Bool.and_eq_true, Bool.or_eq_true, Bool.and_eq_false_iff, Bool.or_eq_false_iff, Bool.not_eq_true, Int.ofNat_eq_natCast, IntKind.wrap_i64, ncast, obLt, elemAt, obApp, partL, obPart, lowD, highD, mxOk, convL_self, List.length_append, List.length_cons, List.length_nil] at *; (try dsimp only [Shp.D, Shp.Ds, Shp.dflt, Shp.dflts] at *)) <;> (try simp only [Shp.lims, Shp.lim, IntKind.wrap_u64, IntKind.wrap_u8] at *) <;> omega); done) | skip)
  · with_reducible refine hR1 _ ?_ (fun zq bq tq yq hUq => ?_)
    · refine EndOk.mk (by cbv) (by cbv) (by cbv; repeat' (first | exact True.intro | exact rfl | with_reducible refine And.intro ?_ ?_)) (by cbv; repeat' (first | exact True.intro | exact rfl | with_reducible refine And.intro ?_ ?_)) (by cbv; repeat' (first | exact True.intro | exact rfl | with_reducible refine And.intro ?_ ?_))
    have q30 := hUq.z 30
    cbv at q30
    replace q30 := q30.eq
    simp only [atI, SV.den, SV.dens, den_c, den_x, den_t, den_ar, den_bt, den_dv, den_sh, den_cv, den_mx, den_mn, den_sel, bden_c, bden_x, bden_t, bden_cmp, bden_not, bden_and, bden_eqb, cmpI, arI, dvI, shI, decide_eq_true_eq, decide_eq_false_iff_not, beq_iff_eq, beq_eq_false_iff_ne, bne_iff_ne, bne_eq_false_iff_eq, ne_eq, Bool.and_eq_true, Bool.or_eq_true, Bool.and_eq_false_iff, Bool.or_eq_false_iff, Bool.not_eq_true, Int.ofNat_eq_natCast, IntKind.wrap_i64, ncast] at q30
    have qy900 := hUq.y 900 (.byte)
    cbv at qy900
    replace qy900 := qy900.eq
    simp only [atY, convL_self, SV.den, SV.dens, den_c, den_x, den_t, den_ar, den_bt, den_dv, den_sh, den_cv, den_mx, den_mn, den_sel, bden_c, bden_x, bden_t, bden_cmp, bden_not, bden_and, bden_eqb, cmpI, arI, dvI, shI, decide_eq_true_eq, decide_eq_false_iff_not, beq_iff_eq, beq_eq_false_iff_ne, bne_iff_ne, bne_eq_false_iff_eq, ne_eq, Bool.and_eq_true, Bool.or_eq_true, Bool.and_eq_false_iff, Bool.or_eq_false_iff, Bool.not_eq_true, Int.ofNat_eq_natCast, IntKind.wrap_i64, ncast] at qy900
    clear hUq hR1
    try dsimp only [Shp.D, Shp.Ds, Shp.dflt] at *
    try simp only [SV.den, SV.dens, den_c, den_x, den_t, den_ar, den_bt, den_dv, den_sh, den_cv, den_mx, den_mn, den_sel, bden_c, bden_x, bden_t, bden_cmp, bden_not, bden_and, bden_eqb, cmpI, arI, dvI, shI, decide_eq_true_eq, decide_eq_false_iff_not, beq_iff_eq, beq_eq_false_iff_ne, bne_iff_ne, bne_eq_false_iff_eq, ne_eq, Bool.and_eq_true, Bool.or_eq_true, Bool.and_eq_false_iff, Bool.or_eq_false_iff, Bool.not_eq_true, Int.ofNat_eq_natCast, IntKind.wrap_i64, ncast, elemAt, convL_self] at *
    try dsimp only [Shp.D, Shp.Ds, Shp.dflt, Shp.dflts] at *
    rename_i hsh hp0 hp1 hp2 hp3
    simp only [List.length_append, List.length_cons, List.length_nil] at hp0
    have hq := congrArg List.length qy900
    rw [selrsB_drop l _ (by omega)] at p3
    rw [hx.1.1, hp3.1.1, hp2.1.1, hp1.1.1, hp0.1.1] at qy900
    refine ⟨⟨by omega, by omega, by omega, ?_⟩, by omega⟩
    rw [← qy900, ← p3, show (zq 30).toNat = (z1 30).toNat + 1 by omega]
    exact selrB_eq _ (_, _, _) hsh.1 _ _
  · (try dsimp only [Shp.D, Shp.Ds, Shp.dflt] at *); simp only [SV.den, SV.dens, den_c, den_x, den_t, den_ar, den_bt, den_dv, den_sh, den_cv, den_mx, den_mn, den_sel, bden_c, bden_x, bden_t, bden_cmp, bden_not, bden_and, bden_eqb, cmpI, arI, dvI, shI, decide_eq_true_eq, decide_eq_false_iff_not, beq_iff_eq, beq_eq_false_iff_ne, bne_iff_ne, bne_eq_false_iff_eq, ne_eq, Bool.and_eq_true, Bool.or_eq_true, Bool.and_eq_false_iff, Bool.or_eq_false_iff, Bool.not_eq_true, Int.ofNat_eq_natCast, IntKind.wrap_i64, ncast, obLt, elemAt, obApp, partL, obPart, lowD, highD, mxOk, convL_self, List.length_append, List.length_cons, List.length_nil] at *; (try dsimp only [Shp.D, Shp.Ds, Shp.dflt, Shp.dflts] at *)
    rw [List.drop_eq_nil_of_le (by omega), selrsB, List.append_nil] at p3
    unfold buildF
    rw [if_neg (by omega), if_neg (by omega), if_neg (by rw [← ‹_ = chkAll l ∧ _›.1]; simp_all), p3]
theorem chkAll_mem : ∀ {l : List SelT}, chkAll l = 0 → ∀ s ∈ l, chkSel (toSel s) = 0
  | [], _, s, hs => by cases hs
  | x :: l, h, s, hs => by
    unfold chkAll at h
    split at h
    · rename_i h0
      rcases List.mem_cons.1 hs with rfl | hs
      · exact h0
      · exact chkAll_mem h s hs
    · contradiction
theorem chkSel_fam {s : Sel} (h : chkSel s = 0) : s.lo.fam = 4 ∨ s.lo.fam = 6 := by
  unfold chkSel at h
  split at h
  · cases h
  · rename_i h1
    simp [valid] at h1
    omega
theorem chkAll_fam {l : List SelT} (h : chkAll l = 0) (k : Nat) (hk : k < l.length) : (l.getD k selD).2.2.2.1.1 = 4 ∨ (l.getD k selD).2.2.2.1.1 = 6 := by
  rw [List.getD_eq_getElem?_getD, List.getElem?_eq_getElem hk]
  exact chkSel_fam (chkAll_mem h _ (List.getElem_mem hk))
theorem rselrB_eq (s : SelT) (kd sz n : Int) (hf : s.2.2.2.1.1 = 4 ∨ s.2.2.2.1.1 = 6) (hk : kd = if s.2.2.2.1.1 = 6 then 8 else 7) (hs : sz = if s.2.2.2.1.1 = 4 then 4 else 16) (hn : n = 8 + 2 * sz) (y r : List UInt8) :
    y ++ [toB kd, toB (IntKind.u8.wrap s.1)] ++ putF (IntKind.u64.wrap n) 2 ++ putF (IntKind.u64.wrap s.2.1) 2 ++ putF (IntKind.u64.wrap s.2.2.1) 2 ++ adrB (toAdr s.2.2.2.1) ++ adrB (toAdr s.2.2.2.2.1) ++ r = y ++ (selrB s ++ r) := by
  subst hn hk hs
  simp only [List.append_assoc, List.cons_append, List.nil_append, selrB, toSel]
  rcases hf with h4 | h4
  · simp [toAdr, h4]
  · simp [toAdr, h4]
theorem size_in {s : Int} {f : Int} (h : s = if f = 4 then 4 else 16) : 0 ≤ s ∧ s ≤ 16 := by split at h <;> omega
abbrev sizeSp : Spec := fnSpec [.int .i64] [.int .i64] [] (fun _ => True) fun x y => y.1 = if x.1 = 4 then 4 else 16
def rbC_t : SpecT := nd0 74 (nd0 73 (lf0 34 (chkSp)) (lf0 73 (fnSpec putAs [.sl .byte] [5] putPre putPost))) (nd0 75 (lf0 74 (sizeSp)) (lf0 75 (fnSpec [.sl .byte, adrE] [.sl .byte] [5] paPre paPost)))
def rbC : Cx := ⟨tt, qt, bt, st, rbC_t, 0, 1000000000000000, fun _ => none, false⟩
theorem rbC_si {E : Env} (h : E.ok) : SpecsOk Try.prog E rbC_t (fun _ => none) := ⟨(nd0_ok (nd0_ok (lf0_ok (rchk_sp h)) (lf0_ok (rput_sp h))) (nd0_ok (lf0_ok (rsize_sp h)) (lf0_ok (rpa_sp h)))), noI_ok _ _⟩
theorem rbC_cx (E : Env) (h : E.ok) (h1 : E.lo = 0) (h2 : E.hi = 1000000000000000) : Cx.ok rbC Try.prog E := ⟨tt_ok, qt_ok, bt_ok, rbC_si h, h, h1, h2, mixed_ok⟩
theorem rbC_from (lo hi : Nat) (E : Env) (h : E.ok) (h1 : E.lo = lo) (h2 : E.hi = hi) : Cx.ok (Cx.from rbC lo hi) Try.prog E := ⟨tt_ok, qt_ok, bt_ok, rbC_si h, h, h1, h2, mixed_ok⟩
theorem rbuild_fn : hasFn Try.prog 31 := ⟨_, Try.func31, by rfl, by rfl⟩
theorem rbuild_sp {E : Env} (hE : E.ok) : SpecOk Try.prog E 31 buildSp := by
  refine spec_of_vc (C := rbC) rbuild_fn Try.func31 (by kernel_rfl) rbC_cx (fun x hl hx => ?_) hE
  obtain ⟨l, u⟩ := x
  have hlen : l.length ≤ 140737488355328 := by simp only [Shp.lims, Shp.lim] at hl; exact hl.1.1
  cbv
  (repeat' (first | (((with_reducible refine And.intro (fun h => ?_) (fun h => ?_))) <;> (first | with_reducible exact (tf h (by assumption)).elim | with_reducible exact (tf (by assumption) h).elim | cbv)) | ((with_reducible refine Mg.mk (Exists.intro ?_ (And.intro ?_ ?_)))) | ((with_reducible refine Cb.mk ?_); cbv) | ((with_reducible refine Lz.mk ?_); cbv) | ((with_reducible refine JoinT.left ?_); cbv) | (with_reducible rfl) | ((with_reducible refine Ob.mk (fun _ => ?_) ?_); rotate_left 1) | ((with_reducible refine AllT.mk (fun x hx => ?_)); cbv) | (with_reducible refine Fin.mk ?_) | (with_reducible exact True.intro) | (with_reducible refine And.intro ?_ ?_)))
  all_goals first | (with_reducible show (∃ _, unr _ _ _ _ _ _); skip) | (with_reducible show Goes _ _ _ _; skip) | (with_reducible show JoinT _ _ _ _ _ _; skip) | ((try dsimp only [Shp.D, Shp.Ds, Shp.dflt] at *); simp only [SV.den, SV.dens, den_c, den_x, den_t, den_ar, den_bt, den_dv, den_sh, den_cv, den_mx, den_mn, den_sel, bden_c, bden_x, bden_t, bden_cmp, bden_not, bden_and, bden_eqb, cmpI, arI, dvI, shI, decide_eq_true_eq, decide_eq_false_iff_not, beq_iff_eq, beq_eq_false_iff_ne, bne_iff_ne, bne_eq_false_iff_eq, ne_eq, Bool.and_eq_true, Bool.or_eq_true, Bool.and_eq_false_iff, Bool.or_eq_false_iff, Bool.not_eq_true, Int.ofNat_eq_natCast, IntKind.wrap_i64, ncast, obLt, elemAt, obApp, partL, obPart, lowD, highD, mxOk, convL_self, List.length_append, List.length_cons, List.length_nil] at *; (try dsimp only [Shp.D, Shp.Ds, Shp.dflt, Shp.dflts] at *); unfold buildF; (repeat' split) <;> first | rfl | (exfalso; omega) | (simp_all; done) | (exfalso; simp_all; omega))
  with_reducible refine loop_hv [] (5 :: rangeN 15 14) [] [] (fun z b t y => 0 ≤ z 4 ∧ z 4 ≤ (l.length : Int) ∧ chkAll (l.drop (z 4).toNat) = chkAll l) (fun z b t y => ((l.length : Int) - z 4).toNat) (by cbv) (by cbv) ?_ ?_ (fun z1 b1 t1 u1 y1 R1 hP1 hR1 => ?_)
  · refine EndOk.mk (by cbv) (by cbv) (by cbv; repeat' (first | exact True.intro | exact rfl | with_reducible refine And.intro ?_ ?_)) (by cbv; repeat' (first | exact True.intro | exact rfl | with_reducible refine And.intro ?_ ?_)) (by cbv; repeat' (first | exact True.intro | exact rfl | with_reducible refine And.intro ?_ ?_))
  · intro zq bq tq yq hUq
    have q4 := hUq.z 4
    cbv at q4
    replace q4 := q4.eq
    simp only [atI, SV.den, SV.dens, den_c, den_x, den_t, den_ar, den_bt, den_dv, den_sh, den_cv, den_mx, den_mn, den_sel, bden_c, bden_x, bden_t, bden_cmp, bden_not, bden_and, bden_eqb, cmpI, arI, dvI, shI, decide_eq_true_eq, decide_eq_false_iff_not, beq_iff_eq, beq_eq_false_iff_ne, bne_iff_ne, bne_eq_false_iff_eq, ne_eq, Bool.and_eq_true, Bool.or_eq_true, Bool.and_eq_false_iff, Bool.or_eq_false_iff, Bool.not_eq_true, Int.ofNat_eq_natCast, IntKind.wrap_i64, ncast] at q4
    clear hUq
    try dsimp only [Shp.D, Shp.Ds, Shp.dflt] at *
    try simp only [SV.den, SV.dens, den_c, den_x, den_t, den_ar, den_bt, den_dv, den_sh, den_cv, den_mx, den_mn, den_sel, bden_c, bden_x, bden_t, bden_cmp, bden_not, bden_and, bden_eqb, cmpI, arI, dvI, shI, decide_eq_true_eq, decide_eq_false_iff_not, beq_iff_eq, beq_eq_false_iff_ne, bne_iff_ne, bne_eq_false_iff_eq, ne_eq, Bool.and_eq_true, Bool.or_eq_true, Bool.and_eq_false_iff, Bool.or_eq_false_iff, Bool.not_eq_true, Int.ofNat_eq_natCast, IntKind.wrap_i64, ncast, convL_self] at *
    rw [← q4]
    exact ⟨by omega, by omega, rfl⟩
  obtain ⟨p1, p2, p3⟩ := hP1
  cbv
  (repeat' (first | (((with_reducible refine And.intro (fun h => ?_) (fun h => ?_))) <;> (first | with_reducible exact (tf h (by assumption)).elim | with_reducible exact (tf (by assumption) h).elim | cbv)) | ((with_reducible refine Mg.mk (Exists.intro ?_ (And.intro ?_ ?_)))) | ((with_reducible refine Cb.mk ?_); cbv) | ((with_reducible refine Lz.mk ?_); cbv) | ((with_reducible refine JoinT.left ?_); cbv) | (with_reducible rfl) | ((with_reducible refine Ob.mk (fun _ => ?_) ?_); rotate_left 1) | ((with_reducible refine AllT.mk (fun x hx => ?_)); cbv) | (with_reducible refine Fin.mk ?_) | (with_reducible exact True.intro) | (with_reducible refine And.intro ?_ ?_)))
  all_goals first | (with_reducible show Goes _ _ _ _; skip) | (clear hR1)
  all_goals first | (with_reducible show (∃ _, unr _ _ _ _ _ _); skip) | (with_reducible show Goes _ _ _ _; skip) | (with_reducible show JoinT _ _ _ _ _ _; skip) | (first | ((((try dsimp only [Shp.D, Shp.Ds, Shp.dflt] at *); simp only [SV.den, SV.dens, den_c, den_x, den_t, den_ar, den_bt, den_dv, den_sh, den_cv, den_mx, den_mn, den_sel, bden_c, bden_x, bden_t, bden_cmp, bden_not, bden_and, bden_eqb, cmpI, arI, dvI, shI, decide_eq_true_eq, decide_eq_false_iff_not, beq_iff_eq, beq_eq_false_iff_ne, bne_iff_ne, bne_eq_false_iff_eq, ne_eq, Bool.and_eq_true, Bool.or_eq_true, Bool.and_eq_false_iff, Bool.or_eq_false_iff, Bool.not_eq_true, Int.ofNat_eq_natCast, IntKind.wrap_i64, ncast, obLt, elemAt, obApp, partL, obPart, lowD, highD, mxOk, convL_self, List.length_append, List.length_cons, List.length_nil] at *; (try dsimp only [Shp.D, Shp.Ds, Shp.dflt, Shp.dflts] at *)) <;> (try simp only [Shp.lims, Shp.lim, IntKind.wrap_u64, IntKind.wrap_u8] at *) <;> omega); done) | skip)
  · (try dsimp only [Shp.D, Shp.Ds, Shp.dflt] at *); simp only [SV.den, SV.dens, den_c, den_x, den_t, den_ar, den_bt, den_dv, den_sh, den_cv, den_mx, den_mn, den_sel, bden_c, bden_x, bden_t, bden_cmp, bden_not, bden_and, bden_eqb, cmpI, arI, dvI, shI, decide_eq_true_eq, decide_eq_false_iff_not, beq_iff_eq, beq_eq_false_iff_ne, bne_iff_ne, bne_eq_false_iff_eq, ne_eq, Bool.and_eq_true, Bool.or_eq_true, Bool.and_eq_false_iff, Bool.or_eq_false_iff, Bool.not_eq_true, Int.ofNat_eq_natCast, IntKind.wrap_i64, ncast, obLt, elemAt, obApp, partL, obPart, lowD, highD, mxOk, convL_self, List.length_append, List.length_cons, List.length_nil] at *; (try dsimp only [Shp.D, Shp.Ds, Shp.dflt, Shp.dflts] at *)
    have e := chkAll_drop l (z1 4).toNat (by omega)
    have hx1 := hx.1
    rw [p3] at e
    unfold buildF
    rw [if_neg (by omega), if_neg (by omega)]
    rw [if_neg (by rw [← hx1]; assumption), ← hx1] at e
    rw [e, if_pos (by assumption)]
  · with_reducible refine hR1 _ ?_ (fun zq bq tq yq hUq => ?_)
    · refine EndOk.mk (by cbv) (by cbv) (by cbv; repeat' (first | exact True.intro | exact rfl | with_reducible refine And.intro ?_ ?_)) (by cbv; repeat' (first | exact True.intro | exact rfl | with_reducible refine And.intro ?_ ?_)) (by cbv; repeat' (first | exact True.intro | exact rfl | with_reducible refine And.intro ?_ ?_))
    have q4 := hUq.z 4
    cbv at q4
    replace q4 := q4.eq
    simp only [atI, SV.den, SV.dens, den_c, den_x, den_t, den_ar, den_bt, den_dv, den_sh, den_cv, den_mx, den_mn, den_sel, bden_c, bden_x, bden_t, bden_cmp, bden_not, bden_and, bden_eqb, cmpI, arI, dvI, shI, decide_eq_true_eq, decide_eq_false_iff_not, beq_iff_eq, beq_eq_false_iff_ne, bne_iff_ne, bne_eq_false_iff_eq, ne_eq, Bool.and_eq_true, Bool.or_eq_true, Bool.and_eq_false_iff, Bool.or_eq_false_iff, Bool.not_eq_true, Int.ofNat_eq_natCast, IntKind.wrap_i64, ncast] at q4
    clear hUq hR1
    try dsimp only [Shp.D, Shp.Ds, Shp.dflt] at *
    try simp only [SV.den, SV.dens, den_c, den_x, den_t, den_ar, den_bt, den_dv, den_sh, den_cv, den_mx, den_mn, den_sel, bden_c, bden_x, bden_t, bden_cmp, bden_not, bden_and, bden_eqb, cmpI, arI, dvI, shI, decide_eq_true_eq, decide_eq_false_iff_not, beq_iff_eq, beq_eq_false_iff_ne, bne_iff_ne, bne_eq_false_iff_eq, ne_eq, Bool.and_eq_true, Bool.or_eq_true, Bool.and_eq_false_iff, Bool.or_eq_false_iff, Bool.not_eq_true, Int.ofNat_eq_natCast, IntKind.wrap_i64, ncast, elemAt, convL_self] at *
    try dsimp only [Shp.D, Shp.Ds, Shp.dflt, Shp.dflts] at *
    have e := chkAll_drop l (z1 4).toNat (by omega)
    have hx1 := hx.1
    rw [h] at hx1
    rw [p3, if_pos hx1.symm] at e
    refine ⟨⟨by omega, by omega, ?_⟩, by omega⟩
    rw [show (zq 4).toNat = (z1 4).toNat + 1 by omega]
    exact e.symm
  have hchk : chkAll l = 0 := by
    (try dsimp only [Shp.D, Shp.Ds, Shp.dflt] at *); simp only [SV.den, SV.dens, den_c, den_x, den_t, den_ar, den_bt, den_dv, den_sh, den_cv, den_mx, den_mn, den_sel, bden_c, bden_x, bden_t, bden_cmp, bden_not, bden_and, bden_eqb, cmpI, arI, dvI, shI, decide_eq_true_eq, decide_eq_false_iff_not, beq_iff_eq, beq_eq_false_iff_ne, bne_iff_ne, bne_eq_false_iff_eq, ne_eq, Bool.and_eq_true, Bool.or_eq_true, Bool.and_eq_false_iff, Bool.or_eq_false_iff, Bool.not_eq_true, Int.ofNat_eq_natCast, IntKind.wrap_i64, ncast, obLt, elemAt, obApp, partL, obPart, lowD, highD, mxOk, convL_self, List.length_append, List.length_cons, List.length_nil] at *; (try dsimp only [Shp.D, Shp.Ds, Shp.dflt, Shp.dflts] at *)
    rw [← p3, List.drop_eq_nil_of_le (by omega), chkAll]
  with_reducible refine loop_hv [(6, 900, 5, .byte)] (8 :: 32 :: rangeN 33 63) [] [900] (fun z b t y => 0 ≤ z 7 ∧ z 7 ≤ (l.length : Int) ∧ ((y 900 .byte).length : Int) ≤ 4 + 100 * z 7 ∧ y 900 .byte ++ selrsB (l.drop (z 7).toNat) = toB (IntKind.u8.wrap l.length) :: 0 :: 0 :: 0 :: selrsB l) (fun z b t y => ((l.length : Int) - z 7).toNat) (by cbv) (by cbv) ?_ ?_ (fun z2 b2 t2 u2 y2 R2 hP2 hR2 => ?_)
  · refine EndOk.mk (by cbv) (by cbv) (by cbv; repeat' (first | exact True.intro | exact rfl | with_reducible refine And.intro ?_ ?_)) (by cbv; repeat' (first | exact True.intro | exact rfl | with_reducible refine And.intro ?_ ?_)) (by cbv; repeat' (first | exact True.intro | exact rfl | with_reducible refine And.intro ?_ ?_))
  · intro zq bq tq yq hUq
    have q7 := hUq.z 7
    cbv at q7
    replace q7 := q7.eq
    simp only [atI, SV.den, SV.dens, den_c, den_x, den_t, den_ar, den_bt, den_dv, den_sh, den_cv, den_mx, den_mn, den_sel, bden_c, bden_x, bden_t, bden_cmp, bden_not, bden_and, bden_eqb, cmpI, arI, dvI, shI, decide_eq_true_eq, decide_eq_false_iff_not, beq_iff_eq, beq_eq_false_iff_ne, bne_iff_ne, bne_eq_false_iff_eq, ne_eq, Bool.and_eq_true, Bool.or_eq_true, Bool.and_eq_false_iff, Bool.or_eq_false_iff, Bool.not_eq_true, Int.ofNat_eq_natCast, IntKind.wrap_i64, ncast] at q7
    have qy900 := hUq.y 900 (.byte)
    cbv at qy900
    replace qy900 := qy900.eq
    simp only [atY, convL_self, SV.den, SV.dens, den_c, den_x, den_t, den_ar, den_bt, den_dv, den_sh, den_cv, den_mx, den_mn, den_sel, bden_c, bden_x, bden_t, bden_cmp, bden_not, bden_and, bden_eqb, cmpI, arI, dvI, shI, decide_eq_true_eq, decide_eq_false_iff_not, beq_iff_eq, beq_eq_false_iff_ne, bne_iff_ne, bne_eq_false_iff_eq, ne_eq, Bool.and_eq_true, Bool.or_eq_true, Bool.and_eq_false_iff, Bool.or_eq_false_iff, Bool.not_eq_true, Int.ofNat_eq_natCast, IntKind.wrap_i64, ncast] at qy900
    clear hUq
    try dsimp only [Shp.D, Shp.Ds, Shp.dflt] at *
    try simp only [SV.den, SV.dens, den_c, den_x, den_t, den_ar, den_bt, den_dv, den_sh, den_cv, den_mx, den_mn, den_sel, bden_c, bden_x, bden_t, bden_cmp, bden_not, bden_and, bden_eqb, cmpI, arI, dvI, shI, decide_eq_true_eq, decide_eq_false_iff_not, beq_iff_eq, beq_eq_false_iff_ne, bne_iff_ne, bne_eq_false_iff_eq, ne_eq, Bool.and_eq_true, Bool.or_eq_true, Bool.and_eq_false_iff, Bool.or_eq_false_iff, Bool.not_eq_true, Int.ofNat_eq_natCast, IntKind.wrap_i64, ncast, convL_self] at *
    rw [← qy900, ← q7]
    exact ⟨by omega, by omega, by simp, rfl⟩
  obtain ⟨r1, r2, r4, r3⟩ := hP2
  cbv
  (repeat' (first | (((with_reducible refine And.intro (fun h => ?_) (fun h => ?_))) <;> (first | with_reducible exact (tf h (by assumption)).elim | with_reducible exact (tf (by assumption) h).elim | cbv)) | ((with_reducible refine Mg.mk (Exists.intro ?_ (And.intro ?_ ?_)))) | ((with_reducible refine Cb.mk ?_); cbv) | ((with_reducible refine Lz.mk ?_); cbv) | ((with_reducible refine JoinT.left ?_); cbv) | (with_reducible rfl) | ((with_reducible refine Ob.mk (fun _ => ?_) ?_); rotate_left 1) | ((with_reducible refine AllT.mk (fun x hx => ?_)); cbv) | (with_reducible refine Fin.mk ?_) | (with_reducible exact True.intro) | (with_reducible refine And.intro ?_ ?_)))
  all_goals first | (with_reducible show Goes _ _ _ _; skip) | (clear hR2)
  all_goals first | (with_reducible show (∃ _, unr _ _ _ _ _ _); skip) | (with_reducible show Goes _ _ _ _; skip) | (with_reducible show JoinT _ _ _ _ _ _; skip) | (first | ((((try dsimp only [Shp.D, Shp.Ds, Shp.dflt] at *); simp only [SV.den, SV.dens, den_c, den_x, den_t, den_ar, den_bt, den_dv, den_sh, den_cv, den_mx, den_mn, den_sel, bden_c, bden_x, bden_t, bden_cmp, bden_not, bden_and, bden_eqb, cmpI, arI, dvI, shI, decide_eq_true_eq, decide_eq_false_iff_not, beq_iff_eq, beq_eq_false_iff_ne, bne_iff_ne, bne_eq_false_iff_eq, ne_eq, Bool.and_eq_true, Bool.or_eq_true, Bool.and_eq_false_iff, Bool.or_eq_false_iff, Bool.not_eq_true, Int.ofNat_eq_natCast, IntKind.wrap_i64, ncast, obLt, elemAt, obApp, partL, obPart, lowD, highD, mxOk, convL_self, List.length_append, List.length_cons, List.length_nil] at *; (try dsimp only [Shp.D, Shp.Ds, Shp.dflt, Shp.dflts] at *)) <;> (try simp only [Shp.lims, Shp.lim, IntKind.wrap_u64, IntKind.wrap_u8] at *) <;> omega); done) | skip)
  · with_reducible refine hR2 _ ?_ (fun zq bq tq yq hUq => ?_)
    · refine EndOk.mk (by cbv) (by cbv) (by cbv; repeat' (first | exact True.intro | exact rfl | with_reducible refine And.intro ?_ ?_)) (by cbv; repeat' (first | exact True.intro | exact rfl | with_reducible refine And.intro ?_ ?_)) (by cbv; repeat' (first | exact True.intro | exact rfl | with_reducible refine And.intro ?_ ?_))
    have q7 := hUq.z 7
    cbv at q7
    replace q7 := q7.eq
    simp only [atI, SV.den, SV.dens, den_c, den_x, den_t, den_ar, den_bt, den_dv, den_sh, den_cv, den_mx, den_mn, den_sel, bden_c, bden_x, bden_t, bden_cmp, bden_not, bden_and, bden_eqb, cmpI, arI, dvI, shI, decide_eq_true_eq, decide_eq_false_iff_not, beq_iff_eq, beq_eq_false_iff_ne, bne_iff_ne, bne_eq_false_iff_eq, ne_eq, Bool.and_eq_true, Bool.or_eq_true, Bool.and_eq_false_iff, Bool.or_eq_false_iff, Bool.not_eq_true, Int.ofNat_eq_natCast, IntKind.wrap_i64, ncast] at q7
    have qy900 := hUq.y 900 (.byte)
    cbv at qy900
    replace qy900 := qy900.eq
    simp only [atY, convL_self, SV.den, SV.dens, den_c, den_x, den_t, den_ar, den_bt, den_dv, den_sh, den_cv, den_mx, den_mn, den_sel, bden_c, bden_x, bden_t, bden_cmp, bden_not, bden_and, bden_eqb, cmpI, arI, dvI, shI, decide_eq_true_eq, decide_eq_false_iff_not, beq_iff_eq, beq_eq_false_iff_ne, bne_iff_ne, bne_eq_false_iff_eq, ne_eq, Bool.and_eq_true, Bool.or_eq_true, Bool.and_eq_false_iff, Bool.or_eq_false_iff, Bool.not_eq_true, Int.ofNat_eq_natCast, IntKind.wrap_i64, ncast] at qy900
    clear hUq hR2
    try dsimp only [Shp.D, Shp.Ds, Shp.dflt] at *
    try simp only [SV.den, SV.dens, den_c, den_x, den_t, den_ar, den_bt, den_dv, den_sh, den_cv, den_mx, den_mn, den_sel, bden_c, bden_x, bden_t, bden_cmp, bden_not, bden_and, bden_eqb, cmpI, arI, dvI, shI, decide_eq_true_eq, decide_eq_false_iff_not, beq_iff_eq, beq_eq_false_iff_ne, bne_iff_ne, bne_eq_false_iff_eq, ne_eq, Bool.and_eq_true, Bool.or_eq_true, Bool.and_eq_false_iff, Bool.or_eq_false_iff, Bool.not_eq_true, Int.ofNat_eq_natCast, IntKind.wrap_i64, ncast, elemAt, convL_self] at *
    try dsimp only [Shp.D, Shp.Ds, Shp.dflt, Shp.dflts] at *
    rename_i hsh hp0 hp1 hp2 hp3
    simp only [List.length_append, List.length_cons, List.length_nil] at hp0
    have hq := congrArg List.length qy900
    rw [selrsB_drop l _ (by omega)] at r3
    rw [hx.1.1, hp3.1.1, hp2.1.1, hp1.1.1, hp0.1.1] at qy900
    refine ⟨⟨by omega, by omega, by omega, ?_⟩, by omega⟩
    rw [← qy900, ← r3, show (zq 7).toNat = (z2 7).toNat + 1 by omega]
    refine rselrB_eq _ _ _ _ (chkAll_fam hchk _ (by omega)) (by first | (rw [if_pos (by assumption)]) | (rw [if_neg (by assumption)])) hsh.1 ?_ _ _
    have := size_in hsh.1
    omega
  · with_reducible refine hR2 _ ?_ (fun zq bq tq yq hUq => ?_)
    · refine EndOk.mk (by cbv) (by cbv) (by cbv; repeat' (first | exact True.intro | exact rfl | with_reducible refine And.intro ?_ ?_)) (by cbv; repeat' (first | exact True.intro | exact rfl | with_reducible refine And.intro ?_ ?_)) (by cbv; repeat' (first | exact True.intro | exact rfl | with_reducible refine And.intro ?_ ?_))
    have q7 := hUq.z 7
    cbv at q7
    replace q7 := q7.eq
    simp only [atI, SV.den, SV.dens, den_c, den_x, den_t, den_ar, den_bt, den_dv, den_sh, den_cv, den_mx, den_mn, den_sel, bden_c, bden_x, bden_t, bden_cmp, bden_not, bden_and, bden_eqb, cmpI, arI, dvI, shI, decide_eq_true_eq, decide_eq_false_iff_not, beq_iff_eq, beq_eq_false_iff_ne, bne_iff_ne, bne_eq_false_iff_eq, ne_eq, Bool.and_eq_true, Bool.or_eq_true, Bool.and_eq_false_iff, Bool.or_eq_false_iff, Bool.not_eq_true, Int.ofNat_eq_natCast, IntKind.wrap_i64, ncast] at q7
    have qy900 := hUq.y 900 (.byte)
    cbv at qy900
    replace qy900 := qy900.eq
    simp only [atY, convL_self, SV.den, SV.dens, den_c, den_x, den_t, den_ar, den_bt, den_dv, den_sh, den_cv, den_mx, den_mn, den_sel, bden_c, bden_x, bden_t, bden_cmp, bden_not, bden_and, bden_eqb, cmpI, arI, dvI, shI, decide_eq_true_eq, decide_eq_false_iff_not, beq_iff_eq, beq_eq_false_iff_ne, bne_iff_ne, bne_eq_false_iff_eq, ne_eq, Bool.and_eq_true, Bool.or_eq_true, Bool.and_eq_false_iff, Bool.or_eq_false_iff, Bool.not_eq_true, Int.ofNat_eq_natCast, IntKind.wrap_i64, ncast] at qy900
    clear hUq hR2
    try dsimp only [Shp.D, Shp.Ds, Shp.dflt] at *
    try simp only [SV.den, SV.dens, den_c, den_x, den_t, den_ar, den_bt, den_dv, den_sh, den_cv, den_mx, den_mn, den_sel, bden_c, bden_x, bden_t, bden_cmp, bden_not, bden_and, bden_eqb, cmpI, arI, dvI, shI, decide_eq_true_eq, decide_eq_false_iff_not, beq_iff_eq, beq_eq_false_iff_ne, bne_iff_ne, bne_eq_false_iff_eq, ne_eq, Bool.and_eq_true, Bool.or_eq_true, Bool.and_eq_false_iff, Bool.or_eq_false_iff, Bool.not_eq_true, Int.ofNat_eq_natCast, IntKind.wrap_i64, ncast, elemAt, convL_self] at *
    try dsimp only [Shp.D, Shp.Ds, Shp.dflt, Shp.dflts] at *
    rename_i hsh hp0 hp1 hp2 hp3
    simp only [List.length_append, List.length_cons, List.length_nil] at hp0
    have hq := congrArg List.length qy900
    rw [selrsB_drop l _ (by omega)] at r3
    rw [hx.1.1, hp3.1.1, hp2.1.1, hp1.1.1, hp0.1.1] at qy900
    refine ⟨⟨by omega, by omega, by omega, ?_⟩, by omega⟩
    rw [← qy900, ← r3, show (zq 7).toNat = (z2 7).toNat + 1 by omega]
    refine rselrB_eq _ _ _ _ (chkAll_fam hchk _ (by omega)) (by first | (rw [if_pos (by assumption)]) | (rw [if_neg (by assumption)])) hsh.1 ?_ _ _
    have := size_in hsh.1
    omega
  · (try dsimp only [Shp.D, Shp.Ds, Shp.dflt] at *); simp only [SV.den, SV.dens, den_c, den_x, den_t, den_ar, den_bt, den_dv, den_sh, den_cv, den_mx, den_mn, den_sel, bden_c, bden_x, bden_t, bden_cmp, bden_not, bden_and, bden_eqb, cmpI, arI, dvI, shI, decide_eq_true_eq, decide_eq_false_iff_not, beq_iff_eq, beq_eq_false_iff_ne, bne_iff_ne, bne_eq_false_iff_eq, ne_eq, Bool.and_eq_true, Bool.or_eq_true, Bool.and_eq_false_iff, Bool.or_eq_false_iff, Bool.not_eq_true, Int.ofNat_eq_natCast, IntKind.wrap_i64, ncast, obLt, elemAt, obApp, partL, obPart, lowD, highD, mxOk, convL_self, List.length_append, List.length_cons, List.length_nil] at *; (try dsimp only [Shp.D, Shp.Ds, Shp.dflt, Shp.dflts] at *)
    rw [List.drop_eq_nil_of_le (by omega), selrsB, List.append_nil] at r3
    unfold buildF
    rw [if_neg (by omega), if_neg (by omega), if_neg (by rw [hchk]; simp), r3]
end Go.Proofs.Ytiinlanpinanhaa.V
