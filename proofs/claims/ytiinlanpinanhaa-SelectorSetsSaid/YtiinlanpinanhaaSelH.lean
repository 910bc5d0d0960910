/- Has, Valid, Check of the program's selectors; Mod, packets that are drawn. -/
import Derived.Test.YtiinlanpinanhaaSel5
set_option linter.unusedVariables false
set_option linter.unusedSimpArgs false
namespace Go.Proofs.Ytiinlanpinanhaa
open Go.RowKit
set_option maxHeartbeats 8000000
set_option maxRecDepth 100000
theorem adr_eta (a : Adr) : (⟨a.fam, a.hi, a.lo⟩ : Adr) = a := rfl
theorem sel_eta2 (s : Sel) : (⟨s.pr, s.pl, s.ph, s.lo, s.hi⟩ : Sel) = s := rfl
theorem sel_Valid (a : Adr) (w : World) : Calls Try.prog 35 #[.agg (cA a)] w fun e w' => e = .returned (.bool (valid a)) ∧ Below w.heap.size w w' := by
  refine pure_fn (noS_cx w) Try.func35 (by kernel_rfl) [sAdr a] (by intro ρ; simp only [sAdr, SV.den, SV.dens, den_c, den_x, den_t, den_ar, den_bt, den_dv, den_sh, den_cv, den_mx, den_mn, den_sel, bden_c, bden_x, bden_t, bden_cmp, bden_not, bden_and, bden_eqb, cmpI, arI, dvI, shI, cA]) ?_
  cbv
  (repeat' (first | (((with_reducible refine And.intro (fun h => ?_) (fun h => ?_))) <;> (first | with_reducible exact (tf h (by assumption)).elim | with_reducible exact (tf (by assumption) h).elim | cbv)) | ((with_reducible refine Ob.mk (fun _ => ?_) ?_); rotate_left 1) | ((with_reducible refine AllIn.mk (fun x hx0 hx1 => ?_)); cbv) | ((with_reducible refine AllT.mk (fun x hx => ?_)); cbv) | ((with_reducible refine DrK.mk ?_ ?_ ?_); (first | exact ⟨_, List.mem_cons_self, _, _, _, _, (by assumption)⟩ | exact ⟨_, List.mem_cons_of_mem _ List.mem_cons_self, _, _, _, _, (by assumption)⟩); first | rfl | assumption | skip) | ((with_reducible refine NewK.mk ?_ ?_ (fun p F a n cap l hp hF => ?_)); (first | exact ⟨_, List.mem_cons_self, _, (by assumption)⟩ | exact ⟨_, List.mem_cons_of_mem _ List.mem_cons_self, _, (by assumption)⟩); rotate_left 1; cbv) | (with_reducible refine And.intro ?_ ?_)))
  all_goals
    simp only [SV.den, SV.dens, den_c, den_x, den_t, den_ar, den_bt, den_dv, den_sh, den_cv, den_mx, den_mn, den_sel, bden_c, bden_x, bden_t, bden_cmp, bden_not, bden_and, bden_eqb, cmpI, arI, dvI, shI, decide_eq_true_eq, decide_eq_false_iff_not, beq_iff_eq, beq_eq_false_iff_ne, bne_iff_ne, bne_eq_false_iff_eq, ne_eq, Bool.and_eq_true, Bool.or_eq_true, Bool.and_eq_false_iff, Bool.or_eq_false_iff, Bool.not_eq_true, Int.ofNat_eq_natCast] at *
    intro ρ
    simp [valid, *]
def validF : List SV → Option SV
  | [.agg [.int .i64 f, .int .u64 h, .int .u64 l]] => some (.bool (.t fun _ => valid ⟨f.den, h.den, l.den⟩))
  | _ => none
theorem valid_fn : hasFn Try.prog 35 := ⟨_, Try.func35, by rfl, by rfl⟩
theorem valid_sp {keep : World → Prop} {B : Nat} (hkeep : ∀ w w', keep w → Below B w w' → keep w') : SpecOk Try.prog keep B 35 (pSpec validF) :=
  pSpec_ok valid_fn (fun args v h => by
    unfold validF at h
    split at h
    · cases h
      refine ⟨fun _ _ _ => rfl, fun ρ w => ?_⟩
      simp only [SV.den, SV.dens, den_c, den_x, den_t, den_ar, den_bt, den_dv, den_sh, den_cv, den_mx, den_mn, den_sel, bden_c, bden_x, bden_t, bden_cmp, bden_not, bden_and, bden_eqb, cmpI, arI, dvI, shI]
      exact sel_Valid _ w
    · cases h) hkeep
def spHas : SpecT := nd0 56 (nd0 37 (lf0 35 (pSpec validF)) (lf0 37 (pSpec lessF))) (nd0 57 (lf0 56 (pSpec opqF)) (lf0 57 (pSpec allF)))
theorem spHas_ok {keep : World → Prop} {B : Nat} (hkeep : ∀ w w', keep w → Below B w w' → keep w') : SpecT.ok Try.prog keep B spHas := (nd0_ok (nd0_ok (lf0_ok (valid_sp hkeep)) (lf0_ok (less_sp hkeep))) (nd0_ok (lf0_ok (opq_sp hkeep)) (lf0_ok (all_sp hkeep))))
theorem spHas_cx (w : World) : Cx.ok ⟨tt, qt, spHas, noO⟩ Try.prog (Below w.heap.size w) w.heap.size := ⟨tt_ok, qt_ok, spHas_ok (keep_below w _), noO_ok _ _ _, keep_below w _, mixed_ok⟩
theorem sel_Has (s : Sel) (a : Adr) (pr port : Int) (w : World) : Calls Try.prog 22 #[.agg (cS s), .agg (cA a), .int .i64 pr, .int .i64 port] w fun e w' => e = .returned (.bool (has s a pr port)) ∧ Below w.heap.size w w' := by
  refine pure_fn (spHas_cx w) Try.func22 (by kernel_rfl) [sSel s, sAdr a, .int .i64 (.x pr), .int .i64 (.x port)] (by intro ρ; simp only [sSel, sAdr, SV.den, SV.dens, den_c, den_x, den_t, den_ar, den_bt, den_dv, den_sh, den_cv, den_mx, den_mn, den_sel, bden_c, bden_x, bden_t, bden_cmp, bden_not, bden_and, bden_eqb, cmpI, arI, dvI, shI, cS, cA]) ?_
  cbv
  (repeat' (first | (((with_reducible refine And.intro (fun h => ?_) (fun h => ?_))) <;> (first | with_reducible exact (tf h (by assumption)).elim | with_reducible exact (tf (by assumption) h).elim | cbv)) | ((with_reducible refine Ob.mk (fun _ => ?_) ?_); rotate_left 1) | ((with_reducible refine AllIn.mk (fun x hx0 hx1 => ?_)); cbv) | ((with_reducible refine AllT.mk (fun x hx => ?_)); cbv) | ((with_reducible refine DrK.mk ?_ ?_ ?_); (first | exact ⟨_, List.mem_cons_self, _, _, _, _, (by assumption)⟩ | exact ⟨_, List.mem_cons_of_mem _ List.mem_cons_self, _, _, _, _, (by assumption)⟩); first | rfl | assumption | skip) | ((with_reducible refine NewK.mk ?_ ?_ (fun p F a n cap l hp hF => ?_)); (first | exact ⟨_, List.mem_cons_self, _, (by assumption)⟩ | exact ⟨_, List.mem_cons_of_mem _ List.mem_cons_self, _, (by assumption)⟩); rotate_left 1; cbv) | (with_reducible refine And.intro ?_ ?_)))
  all_goals
    simp only [SV.den, SV.dens, den_c, den_x, den_t, den_ar, den_bt, den_dv, den_sh, den_cv, den_mx, den_mn, den_sel, bden_c, bden_x, bden_t, bden_cmp, bden_not, bden_and, bden_eqb, cmpI, arI, dvI, shI, decide_eq_true_eq, decide_eq_false_iff_not, beq_iff_eq, beq_eq_false_iff_ne, bne_iff_ne, bne_eq_false_iff_eq, ne_eq, Bool.and_eq_true, Bool.or_eq_true, Bool.and_eq_false_iff, Bool.or_eq_false_iff, Bool.not_eq_true, Int.ofNat_eq_natCast, sel_eta, adr_eta, sel_eta2] at *
    intro ρ
    simp [has, *]
def hasF : List SV → Option SV
  | [.agg [.int .i64 a1, .int .i64 a2, .int .i64 a3, .int .i64 a4, .int .u64 a5, .int .u64 a6, .int .i64 a7, .int .u64 a8, .int .u64 a9], .agg [.int .i64 f, .int .u64 h, .int .u64 l], .int .i64 p, .int .i64 q] =>
    some (.bool (.t fun _ => has ⟨a1.den, a2.den, a3.den, ⟨a4.den, a5.den, a6.den⟩, ⟨a7.den, a8.den, a9.den⟩⟩ ⟨f.den, h.den, l.den⟩ p.den q.den))
  | _ => none
theorem has_fn : hasFn Try.prog 22 := ⟨_, Try.func22, by rfl, by rfl⟩
theorem has_sp {keep : World → Prop} {B : Nat} (hkeep : ∀ w w', keep w → Below B w w' → keep w') : SpecOk Try.prog keep B 22 (pSpec hasF) :=
  pSpec_ok has_fn (fun args v h => by
    unfold hasF at h
    split at h
    · cases h
      refine ⟨fun _ _ _ => rfl, fun ρ w => ?_⟩
      simp only [SV.den, SV.dens, den_c, den_x, den_t, den_ar, den_bt, den_dv, den_sh, den_cv, den_mx, den_mn, den_sel, bden_c, bden_x, bden_t, bden_cmp, bden_not, bden_and, bden_eqb, cmpI, arI, dvI, shI]
      exact sel_Has _ _ _ _ w
    · cases h) hkeep
theorem sel_Check (s : Sel) (w : World) : Calls Try.prog 19 #[.agg (cS s)] w fun e w' => e = .returned (.int .i64 (chkSel s)) ∧ Below w.heap.size w w' := by
  refine pure_fn (spHas_cx w) Try.func19 (by kernel_rfl) [sSel s] (by intro ρ; simp only [sSel, SV.den, SV.dens, den_c, den_x, den_t, den_ar, den_bt, den_dv, den_sh, den_cv, den_mx, den_mn, den_sel, bden_c, bden_x, bden_t, bden_cmp, bden_not, bden_and, bden_eqb, cmpI, arI, dvI, shI, cS]) ?_
  cbv
  (repeat' (first | (((with_reducible refine And.intro (fun h => ?_) (fun h => ?_))) <;> (first | with_reducible exact (tf h (by assumption)).elim | with_reducible exact (tf (by assumption) h).elim | cbv)) | ((with_reducible refine Ob.mk (fun _ => ?_) ?_); rotate_left 1) | ((with_reducible refine AllIn.mk (fun x hx0 hx1 => ?_)); cbv) | ((with_reducible refine AllT.mk (fun x hx => ?_)); cbv) | ((with_reducible refine DrK.mk ?_ ?_ ?_); (first | exact ⟨_, List.mem_cons_self, _, _, _, _, (by assumption)⟩ | exact ⟨_, List.mem_cons_of_mem _ List.mem_cons_self, _, _, _, _, (by assumption)⟩); first | rfl | assumption | skip) | ((with_reducible refine NewK.mk ?_ ?_ (fun p F a n cap l hp hF => ?_)); (first | exact ⟨_, List.mem_cons_self, _, (by assumption)⟩ | exact ⟨_, List.mem_cons_of_mem _ List.mem_cons_self, _, (by assumption)⟩); rotate_left 1; cbv) | (with_reducible refine And.intro ?_ ?_)))
  all_goals
    simp only [SV.den, SV.dens, den_c, den_x, den_t, den_ar, den_bt, den_dv, den_sh, den_cv, den_mx, den_mn, den_sel, bden_c, bden_x, bden_t, bden_cmp, bden_not, bden_and, bden_eqb, cmpI, arI, dvI, shI, decide_eq_true_eq, decide_eq_false_iff_not, beq_iff_eq, beq_eq_false_iff_ne, bne_iff_ne, bne_eq_false_iff_eq, ne_eq, Bool.and_eq_true, Bool.or_eq_true, Bool.and_eq_false_iff, Bool.or_eq_false_iff, Bool.not_eq_true, Int.ofNat_eq_natCast, sel_eta, adr_eta, sel_eta2] at *
    intro ρ
    simp [chkSel, *]
def chkF : List SV → Option SV
  | [.agg [.int .i64 a1, .int .i64 a2, .int .i64 a3, .int .i64 a4, .int .u64 a5, .int .u64 a6, .int .i64 a7, .int .u64 a8, .int .u64 a9]] =>
    some (.int .i64 (.t fun _ => chkSel ⟨a1.den, a2.den, a3.den, ⟨a4.den, a5.den, a6.den⟩, ⟨a7.den, a8.den, a9.den⟩⟩))
  | _ => none
theorem chk_fn : hasFn Try.prog 19 := ⟨_, Try.func19, by rfl, by rfl⟩
theorem chk_sp {keep : World → Prop} {B : Nat} (hkeep : ∀ w w', keep w → Below B w w' → keep w') : SpecOk Try.prog keep B 19 (pSpec chkF) :=
  pSpec_ok chk_fn (fun args v h => by
    unfold chkF at h
    split at h
    · cases h
      refine ⟨fun _ _ _ => rfl, fun ρ w => ?_⟩
      simp only [SV.den, SV.dens, den_c, den_x, den_t, den_ar, den_bt, den_dv, den_sh, den_cv, den_mx, den_mn, den_sel, bden_c, bden_x, bden_t, bden_cmp, bden_not, bden_and, bden_eqb, cmpI, arI, dvI, shI]
      exact sel_Check _ w
    · cases h) hkeep
end Go.Proofs.Ytiinlanpinanhaa
