/- The program's selectors: what its functions reckon. -/
import Derived.Test.YtiinlanpinanhaaTt
import Derived.Test.YtiinlanpinanhaaSelVal
set_option linter.unusedVariables false
set_option linter.unusedSimpArgs false
namespace Go.Proofs.Ytiinlanpinanhaa
open Go.RowKit
set_option maxHeartbeats 4000000
set_option maxRecDepth 100000
theorem noS_cx (w : World) : Cx.ok ⟨tt, qt, noS, noO⟩ Try.prog (Below w.heap.size w) w.heap.size := ⟨tt_ok, qt_ok, noS_ok _ _ _, noO_ok _ _ _, keep_below w _, mixed_ok⟩

theorem sel_pless (f h l f' h' l' : Int) (w : World) :
    Calls Try.prog 77 #[.agg #[.int .i64 f, .int .u64 h, .int .u64 l], .agg #[.int .i64 f', .int .u64 h', .int .u64 l']] w fun e w' => e = .returned (.bool (less ⟨f, h, l⟩ ⟨f', h', l'⟩)) ∧ Below w.heap.size w w' := by
  refine pure_fn (noS_cx w) Try.func77 (by kernel_rfl) [.agg [.int .i64 (.x f), .int .u64 (.x h), .int .u64 (.x l)], .agg [.int .i64 (.x f'), .int .u64 (.x h'), .int .u64 (.x l')]] (by intro ρ; simp only [SV.den, SV.dens, den_c, den_x, den_t, den_ar, den_bt, den_dv, den_sh, den_cv, den_mx, den_mn, den_sel, bden_c, bden_x, bden_t, bden_cmp, bden_not, bden_and, bden_eqb, cmpI, arI, dvI, shI]) ?_
  cbv
  (repeat' (first | (((with_reducible refine And.intro (fun h => ?_) (fun h => ?_))) <;> (first | with_reducible exact (tf h (by assumption)).elim | with_reducible exact (tf (by assumption) h).elim | cbv)) | ((with_reducible refine Ob.mk (fun _ => ?_) ?_); rotate_left 1) | ((with_reducible refine AllIn.mk (fun x hx0 hx1 => ?_)); cbv) | ((with_reducible refine AllT.mk (fun x hx => ?_)); cbv) | ((with_reducible refine DrK.mk ?_ ?_ ?_); (first | exact ⟨_, List.mem_cons_self, _, _, _, _, (by assumption)⟩ | exact ⟨_, List.mem_cons_of_mem _ List.mem_cons_self, _, _, _, _, (by assumption)⟩); first | rfl | assumption | skip) | ((with_reducible refine NewK.mk ?_ ?_ (fun p F a n cap l hp hF => ?_)); (first | exact ⟨_, List.mem_cons_self, _, (by assumption)⟩ | exact ⟨_, List.mem_cons_of_mem _ List.mem_cons_self, _, (by assumption)⟩); rotate_left 1; cbv) | (with_reducible refine And.intro ?_ ?_)))
  all_goals
    simp only [SV.den, SV.dens, den_c, den_x, den_t, den_ar, den_bt, den_dv, den_sh, den_cv, den_mx, den_mn, den_sel, bden_c, bden_x, bden_t, bden_cmp, bden_not, bden_and, bden_eqb, cmpI, arI, dvI, shI, bne_iff_ne, bne_eq_false_iff_eq] at *
    intro ρ
    simp [less, *]
def lessF : List SV → Option SV
  | [.agg [.int .i64 f, .int .u64 h, .int .u64 l], .agg [.int .i64 f', .int .u64 h', .int .u64 l']] => some (.bool (.t fun _ => less ⟨f.den, h.den, l.den⟩ ⟨f'.den, h'.den, l'.den⟩))
  | _ => none
theorem pless_fn : hasFn Try.prog 77 := ⟨_, Try.func77, by rfl, by rfl⟩
theorem pless_sp {keep : World → Prop} {B : Nat} (hkeep : ∀ w w', keep w → Below B w w' → keep w') : SpecOk Try.prog keep B 77 (pSpec lessF) :=
  pSpec_ok pless_fn (fun args v h => by
    unfold lessF at h
    split at h
    · cases h
      refine ⟨fun _ _ _ => rfl, fun ρ w => ?_⟩
      simp only [SV.den, SV.dens, den_c, den_x, den_t, den_ar, den_bt, den_dv, den_sh, den_cv, den_mx, den_mn, den_sel, bden_c, bden_x, bden_t, bden_cmp, bden_not, bden_and, bden_eqb, cmpI, arI, dvI, shI]
      exact sel_pless _ _ _ _ _ _ w
    · cases h) hkeep
def spPless : SpecT := lf0 77 (pSpec lessF)
theorem spPless_ok {keep : World → Prop} {B : Nat} (hkeep : ∀ w w', keep w → Below B w w' → keep w') : SpecT.ok Try.prog keep B spPless := (lf0_ok (pless_sp hkeep))
theorem spPless_cx (w : World) : Cx.ok ⟨tt, qt, spPless, noO⟩ Try.prog (Below w.heap.size w) w.heap.size := ⟨tt_ok, qt_ok, spPless_ok (keep_below w _), noO_ok _ _ _, keep_below w _, mixed_ok⟩
theorem sel_Less (f h l f' h' l' : Int) (w : World) :
    Calls Try.prog 37 #[.agg #[.int .i64 f, .int .u64 h, .int .u64 l], .agg #[.int .i64 f', .int .u64 h', .int .u64 l']] w fun e w' => e = .returned (.bool (less ⟨f, h, l⟩ ⟨f', h', l'⟩)) ∧ Below w.heap.size w w' := by
  refine pure_fn (spPless_cx w) Try.func37 (by kernel_rfl) [.agg [.int .i64 (.x f), .int .u64 (.x h), .int .u64 (.x l)], .agg [.int .i64 (.x f'), .int .u64 (.x h'), .int .u64 (.x l')]] (by intro ρ; simp only [SV.den, SV.dens, den_c, den_x, den_t, den_ar, den_bt, den_dv, den_sh, den_cv, den_mx, den_mn, den_sel, bden_c, bden_x, bden_t, bden_cmp, bden_not, bden_and, bden_eqb, cmpI, arI, dvI, shI]) ?_
  cbv
  (repeat' (first | (((with_reducible refine And.intro (fun h => ?_) (fun h => ?_))) <;> (first | with_reducible exact (tf h (by assumption)).elim | with_reducible exact (tf (by assumption) h).elim | cbv)) | ((with_reducible refine Ob.mk (fun _ => ?_) ?_); rotate_left 1) | ((with_reducible refine AllIn.mk (fun x hx0 hx1 => ?_)); cbv) | ((with_reducible refine AllT.mk (fun x hx => ?_)); cbv) | ((with_reducible refine DrK.mk ?_ ?_ ?_); (first | exact ⟨_, List.mem_cons_self, _, _, _, _, (by assumption)⟩ | exact ⟨_, List.mem_cons_of_mem _ List.mem_cons_self, _, _, _, _, (by assumption)⟩); first | rfl | assumption | skip) | ((with_reducible refine NewK.mk ?_ ?_ (fun p F a n cap l hp hF => ?_)); (first | exact ⟨_, List.mem_cons_self, _, (by assumption)⟩ | exact ⟨_, List.mem_cons_of_mem _ List.mem_cons_self, _, (by assumption)⟩); rotate_left 1; cbv) | (with_reducible refine And.intro ?_ ?_)))
  all_goals
    intro ρ
    simp only [SV.den, SV.dens, den_c, den_x, den_t, den_ar, den_bt, den_dv, den_sh, den_cv, den_mx, den_mn, den_sel, bden_c, bden_x, bden_t, bden_cmp, bden_not, bden_and, bden_eqb, cmpI, arI, dvI, shI]
theorem less_fn : hasFn Try.prog 37 := ⟨_, Try.func37, by rfl, by rfl⟩
theorem less_sp {keep : World → Prop} {B : Nat} (hkeep : ∀ w w', keep w → Below B w w' → keep w') : SpecOk Try.prog keep B 37 (pSpec lessF) :=
  pSpec_ok less_fn (fun args v h => by
    unfold lessF at h
    split at h
    · cases h
      refine ⟨fun _ _ _ => rfl, fun ρ w => ?_⟩
      simp only [SV.den, SV.dens, den_c, den_x, den_t, den_ar, den_bt, den_dv, den_sh, den_cv, den_mx, den_mn, den_sel, bden_c, bden_x, bden_t, bden_cmp, bden_not, bden_and, bden_eqb, cmpI, arI, dvI, shI]
      exact sel_Less _ _ _ _ _ _ w
    · cases h) hkeep
def sSel (a : Sel) : SV := .agg [.int .i64 (.x a.pr), .int .i64 (.x a.pl), .int .i64 (.x a.ph), .int .i64 (.x a.lo.fam), .int .u64 (.x a.lo.hi), .int .u64 (.x a.lo.lo), .int .i64 (.x a.hi.fam), .int .u64 (.x a.hi.hi), .int .u64 (.x a.hi.lo)]
theorem sel_opaque (a : Sel) (w : World) : Calls Try.prog 56 #[.agg (cS a)] w fun e w' => e = .returned (.bool (opq a)) ∧ Below w.heap.size w w' := by
  refine pure_fn (noS_cx w) Try.func56 (by kernel_rfl) [sSel a] (by intro ρ; simp only [sSel, SV.den, SV.dens, den_c, den_x, den_t, den_ar, den_bt, den_dv, den_sh, den_cv, den_mx, den_mn, den_sel, bden_c, bden_x, bden_t, bden_cmp, bden_not, bden_and, bden_eqb, cmpI, arI, dvI, shI, cS]) ?_
  cbv
  (repeat' (first | (((with_reducible refine And.intro (fun h => ?_) (fun h => ?_))) <;> (first | with_reducible exact (tf h (by assumption)).elim | with_reducible exact (tf (by assumption) h).elim | cbv)) | ((with_reducible refine Ob.mk (fun _ => ?_) ?_); rotate_left 1) | ((with_reducible refine AllIn.mk (fun x hx0 hx1 => ?_)); cbv) | ((with_reducible refine AllT.mk (fun x hx => ?_)); cbv) | ((with_reducible refine DrK.mk ?_ ?_ ?_); (first | exact ⟨_, List.mem_cons_self, _, _, _, _, (by assumption)⟩ | exact ⟨_, List.mem_cons_of_mem _ List.mem_cons_self, _, _, _, _, (by assumption)⟩); first | rfl | assumption | skip) | ((with_reducible refine NewK.mk ?_ ?_ (fun p F a n cap l hp hF => ?_)); (first | exact ⟨_, List.mem_cons_self, _, (by assumption)⟩ | exact ⟨_, List.mem_cons_of_mem _ List.mem_cons_self, _, (by assumption)⟩); rotate_left 1; cbv) | (with_reducible refine And.intro ?_ ?_)))
  all_goals
    simp only [SV.den, SV.dens, den_c, den_x, den_t, den_ar, den_bt, den_dv, den_sh, den_cv, den_mx, den_mn, den_sel, bden_c, bden_x, bden_t, bden_cmp, bden_not, bden_and, bden_eqb, cmpI, arI, dvI, shI, beq_iff_eq, beq_eq_false_iff_ne] at *
    intro ρ
    simp [opq, *]
theorem sel_all (a : Sel) (w : World) : Calls Try.prog 57 #[.agg (cS a)] w fun e w' => e = .returned (.bool (alls a)) ∧ Below w.heap.size w w' := by
  refine pure_fn (noS_cx w) Try.func57 (by kernel_rfl) [sSel a] (by intro ρ; simp only [sSel, SV.den, SV.dens, den_c, den_x, den_t, den_ar, den_bt, den_dv, den_sh, den_cv, den_mx, den_mn, den_sel, bden_c, bden_x, bden_t, bden_cmp, bden_not, bden_and, bden_eqb, cmpI, arI, dvI, shI, cS]) ?_
  cbv
  (repeat' (first | (((with_reducible refine And.intro (fun h => ?_) (fun h => ?_))) <;> (first | with_reducible exact (tf h (by assumption)).elim | with_reducible exact (tf (by assumption) h).elim | cbv)) | ((with_reducible refine Ob.mk (fun _ => ?_) ?_); rotate_left 1) | ((with_reducible refine AllIn.mk (fun x hx0 hx1 => ?_)); cbv) | ((with_reducible refine AllT.mk (fun x hx => ?_)); cbv) | ((with_reducible refine DrK.mk ?_ ?_ ?_); (first | exact ⟨_, List.mem_cons_self, _, _, _, _, (by assumption)⟩ | exact ⟨_, List.mem_cons_of_mem _ List.mem_cons_self, _, _, _, _, (by assumption)⟩); first | rfl | assumption | skip) | ((with_reducible refine NewK.mk ?_ ?_ (fun p F a n cap l hp hF => ?_)); (first | exact ⟨_, List.mem_cons_self, _, (by assumption)⟩ | exact ⟨_, List.mem_cons_of_mem _ List.mem_cons_self, _, (by assumption)⟩); rotate_left 1; cbv) | (with_reducible refine And.intro ?_ ?_)))
  all_goals
    simp only [SV.den, SV.dens, den_c, den_x, den_t, den_ar, den_bt, den_dv, den_sh, den_cv, den_mx, den_mn, den_sel, bden_c, bden_x, bden_t, bden_cmp, bden_not, bden_and, bden_eqb, cmpI, arI, dvI, shI, beq_iff_eq, beq_eq_false_iff_ne] at *
    intro ρ
    simp [alls, *]
def opqF : List SV → Option SV
  | [.agg [.int .i64 a, .int .i64 b, .int .i64 c, .int .i64 d, .int .u64 e, .int .u64 f, .int .i64 g, .int .u64 h, .int .u64 i]] => some (.bool (.t fun _ => opq ⟨a.den, b.den, c.den, ⟨d.den, e.den, f.den⟩, ⟨g.den, h.den, i.den⟩⟩))
  | _ => none
def allF : List SV → Option SV
  | [.agg [.int .i64 a, .int .i64 b, .int .i64 c, .int .i64 d, .int .u64 e, .int .u64 f, .int .i64 g, .int .u64 h, .int .u64 i]] => some (.bool (.t fun _ => alls ⟨a.den, b.den, c.den, ⟨d.den, e.den, f.den⟩, ⟨g.den, h.den, i.den⟩⟩))
  | _ => none
theorem opq_fn : hasFn Try.prog 56 := ⟨_, Try.func56, by rfl, by rfl⟩
theorem all_fn : hasFn Try.prog 57 := ⟨_, Try.func57, by rfl, by rfl⟩
theorem opq_sp {keep : World → Prop} {B : Nat} (hkeep : ∀ w w', keep w → Below B w w' → keep w') : SpecOk Try.prog keep B 56 (pSpec opqF) :=
  pSpec_ok opq_fn (fun args v h => by
    unfold opqF at h
    split at h
    · rename_i a b c d e f g h i
      cases h
      refine ⟨fun _ _ _ => rfl, fun ρ w => ?_⟩
      simp only [SV.den, SV.dens, den_c, den_x, den_t, den_ar, den_bt, den_dv, den_sh, den_cv, den_mx, den_mn, den_sel, bden_c, bden_x, bden_t, bden_cmp, bden_not, bden_and, bden_eqb, cmpI, arI, dvI, shI]
      exact sel_opaque ⟨a.den, b.den, c.den, ⟨d.den, e.den, f.den⟩, ⟨g.den, h.den, i.den⟩⟩ w
    · cases h) hkeep
theorem all_sp {keep : World → Prop} {B : Nat} (hkeep : ∀ w w', keep w → Below B w w' → keep w') : SpecOk Try.prog keep B 57 (pSpec allF) :=
  pSpec_ok all_fn (fun args v h => by
    unfold allF at h
    split at h
    · rename_i a b c d e f g h i
      cases h
      refine ⟨fun _ _ _ => rfl, fun ρ w => ?_⟩
      simp only [SV.den, SV.dens, den_c, den_x, den_t, den_ar, den_bt, den_dv, den_sh, den_cv, den_mx, den_mn, den_sel, bden_c, bden_x, bden_t, bden_cmp, bden_not, bden_and, bden_eqb, cmpI, arI, dvI, shI]
      exact sel_all ⟨a.den, b.den, c.den, ⟨d.den, e.den, f.den⟩, ⟨g.den, h.den, i.den⟩⟩ w
    · cases h) hkeep
def spMeet : SpecT := nd0 56 (lf0 37 (pSpec lessF)) (nd0 57 (lf0 56 (pSpec opqF)) (lf0 57 (pSpec allF)))
theorem spMeet_ok {keep : World → Prop} {B : Nat} (hkeep : ∀ w w', keep w → Below B w w' → keep w') : SpecT.ok Try.prog keep B spMeet := (nd0_ok (lf0_ok (less_sp hkeep)) (nd0_ok (lf0_ok (opq_sp hkeep)) (lf0_ok (all_sp hkeep))))
theorem spMeet_cx (w : World) : Cx.ok ⟨tt, qt, spMeet, noO⟩ Try.prog (Below w.heap.size w) w.heap.size := ⟨tt_ok, qt_ok, spMeet_ok (keep_below w _), noO_ok _ _ _, keep_below w _, mixed_ok⟩
theorem mx_max (a b : Int) : (if b > a then b else a) = max a b := by omega
theorem mn_min (a b : Int) : (if b < a then b else a) = min a b := by omega
theorem sel_Meet (a b : Sel) (w : World) : Calls Try.prog 17 #[.agg (cS a), .agg (cS b)] w fun e w' => e = .returned (.tuple #[.agg (cS (meet a b).1), .bool (meet a b).2]) ∧ Below w.heap.size w w' := by
  obtain ⟨a1, a2, a3, ⟨a4, a5, a6⟩, ⟨a7, a8, a9⟩⟩ := a
  obtain ⟨b1, b2, b3, ⟨b4, b5, b6⟩, ⟨b7, b8, b9⟩⟩ := b
  refine pure_fn (spMeet_cx w) Try.func17 (by kernel_rfl) [sSel ⟨a1, a2, a3, ⟨a4, a5, a6⟩, ⟨a7, a8, a9⟩⟩, sSel ⟨b1, b2, b3, ⟨b4, b5, b6⟩, ⟨b7, b8, b9⟩⟩] (by intro ρ; simp only [sSel, SV.den, SV.dens, den_c, den_x, den_t, den_ar, den_bt, den_dv, den_sh, den_cv, den_mx, den_mn, den_sel, bden_c, bden_x, bden_t, bden_cmp, bden_not, bden_and, bden_eqb, cmpI, arI, dvI, shI, cS]) ?_
  cbv
  (repeat' (first | (((with_reducible refine And.intro (fun h => ?_) (fun h => ?_))) <;> (first | with_reducible exact (tf h (by assumption)).elim | with_reducible exact (tf (by assumption) h).elim | cbv)) | ((with_reducible refine Ob.mk (fun _ => ?_) ?_); rotate_left 1) | ((with_reducible refine AllIn.mk (fun x hx0 hx1 => ?_)); cbv) | ((with_reducible refine AllT.mk (fun x hx => ?_)); cbv) | ((with_reducible refine DrK.mk ?_ ?_ ?_); (first | exact ⟨_, List.mem_cons_self, _, _, _, _, (by assumption)⟩ | exact ⟨_, List.mem_cons_of_mem _ List.mem_cons_self, _, _, _, _, (by assumption)⟩); first | rfl | assumption | skip) | ((with_reducible refine NewK.mk ?_ ?_ (fun p F a n cap l hp hF => ?_)); (first | exact ⟨_, List.mem_cons_self, _, (by assumption)⟩ | exact ⟨_, List.mem_cons_of_mem _ List.mem_cons_self, _, (by assumption)⟩); rotate_left 1; cbv) | (with_reducible refine And.intro ?_ ?_)))
  all_goals
    simp only [SV.den, SV.dens, den_c, den_x, den_t, den_ar, den_bt, den_dv, den_sh, den_cv, den_mx, den_mn, den_sel, bden_c, bden_x, bden_t, bden_cmp, bden_not, bden_and, bden_eqb, cmpI, arI, dvI, shI, bne_iff_ne, ne_eq, bne_eq_false_iff_eq, decide_eq_true_eq, decide_eq_false_iff_not, mx_max, mn_min, Bool.not_eq_true', Bool.not_eq_false'] at *
    intro ρ
    subst_vars
    simp [meet, cS, amax, amin, Sel.zero, Adr.zero, *]
end Go.Proofs.Ytiinlanpinanhaa
