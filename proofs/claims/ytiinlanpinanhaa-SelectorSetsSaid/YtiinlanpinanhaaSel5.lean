/- Chapter 5: laws over drawn selectors. -/
import Derived.Test.YtiinlanpinanhaaSdB
import Derived.Test.YtiinlanpinanhaaSdN
set_option linter.unusedVariables false
set_option linter.unusedSimpArgs false
namespace Go.Proofs.Ytiinlanpinanhaa
open Go.RowKit
set_option maxHeartbeats 8000000
set_option maxRecDepth 100000
theorem meet_fn : hasFn Try.prog 17 := ⟨_, Try.func17, by rfl, by rfl⟩
/-- The meet, hidden. -/
structure MeetIs (a b : Sel) (r : Sel × Bool) : Prop where
  eq : meet a b = r
def selEq (a b : Sel) : Bool := a.pr == b.pr && (a.pl == b.pl && (a.ph == b.ph && (a.lo.fam == b.lo.fam && (a.lo.hi == b.lo.hi && a.lo.lo == b.lo.lo) && (a.hi.fam == b.hi.fam && (a.hi.hi == b.hi.hi && a.hi.lo == b.hi.lo)))))
theorem selEq_iff (a b : Sel) : selEq a b = true ↔ a = b := by
  constructor
  · intro h
    simp only [selEq, Bool.and_eq_true, beq_iff_eq] at h
    obtain ⟨h1, h2, h3, ⟨h4, h5, h6⟩, h7, h8, h9⟩ := h
    exact Sel.ext' h1 h2 h3 (Adr.ext' h4 h5 h6) (Adr.ext' h7 h8 h9)
  · rintro rfl
    simp [selEq]
theorem sel_eta (a : Sel) : (⟨a.pr, a.pl, a.ph, ⟨a.lo.fam, a.lo.hi, a.lo.lo⟩, ⟨a.hi.fam, a.hi.hi, a.hi.lo⟩⟩ : Sel) = a := rfl
def insB (a b : Sel) : Bool := (meet a b).2 && selEq (meet a b).1 a
def meetDF : DF := fun args K =>
  match args with
  | [.agg [.int .i64 a1, .int .i64 a2, .int .i64 a3, .int .i64 a4, .int .u64 a5, .int .u64 a6, .int .i64 a7, .int .u64 a8, .int .u64 a9], .agg [.int .i64 b1, .int .i64 b2, .int .i64 b3, .int .i64 b4, .int .u64 b5, .int .u64 b6, .int .i64 b7, .int .u64 b8, .int .u64 b9]] =>
    AllT (MeetIs ⟨a1.den, a2.den, a3.den, ⟨a4.den, a5.den, a6.den⟩, ⟨a7.den, a8.den, a9.den⟩⟩ ⟨b1.den, b2.den, b3.den, ⟨b4.den, b5.den, b6.den⟩, ⟨b7.den, b8.den, b9.den⟩⟩) fun r => K (.tup [sSel r.1, .bool (.x r.2)])
  | _ => False
theorem meet_pure : PureOk Try.prog 17 meetDF := by
  intro args K h ρ w
  unfold meetDF at h
  split at h
  · rename_i a1 a2 a3 a4 a5 a6 a7 a8 a9 b1 b2 b3 b4 b5 b6 b7 b8 b9
    simp only [SV.den, SV.dens, den_c, den_x, den_t, den_ar, den_bt, den_dv, den_sh, den_cv, den_mx, den_mn, den_sel, bden_c, bden_x, bden_t, bden_cmp, bden_not, bden_and, bden_eqb, cmpI, arI, dvI, shI]
    refine (sel_Meet ⟨a1.den, a2.den, a3.den, ⟨a4.den, a5.den, a6.den⟩, ⟨a7.den, a8.den, a9.den⟩⟩ ⟨b1.den, b2.den, b3.den, ⟨b4.den, b5.den, b6.den⟩, ⟨b7.den, b8.den, b9.den⟩⟩ w).mono ?_
    rintro e w' ⟨rfl, hb⟩
    exact ⟨.tup [sSel (meet _ _).1, .bool (.x (meet _ _).2)], by simp only [SV.den, SV.dens, den_c, den_x, den_t, den_ar, den_bt, den_dv, den_sh, den_cv, den_mx, den_mn, den_sel, bden_c, bden_x, bden_t, bden_cmp, bden_not, bden_and, bden_eqb, cmpI, arI, dvI, shI, sSel, cS], fun _ _ => rfl, h.all _ ⟨rfl⟩, hb⟩
  · exact h.elim
theorem meet_sp {keep : World → Prop} {B : Nat} (hkeep : ∀ w w', keep w → Below B w w' → keep w') : SpecOk Try.prog keep B 17 (nSpec meetDF) := nSpec_ok meet_fn meet_pure hkeep
def spIns : SpecT := lf0 17 (nSpec meetDF)
theorem spIns_ok {keep : World → Prop} {B : Nat} (hkeep : ∀ w w', keep w → Below B w w' → keep w') : SpecT.ok Try.prog keep B spIns := (lf0_ok (meet_sp hkeep))
theorem spIns_cx (w : World) : Cx.ok ⟨tt, qt, spIns, noO⟩ Try.prog (Below w.heap.size w) w.heap.size := ⟨tt_ok, qt_ok, spIns_ok (keep_below w _), noO_ok _ _ _, keep_below w _, mixed_ok⟩
theorem sel_Inside (a b : Sel) (w : World) : Calls Try.prog 18 #[.agg (cS a), .agg (cS b)] w fun e w' => e = .returned (.bool (insB a b)) ∧ Below w.heap.size w w' := by
  refine pure_fn (spIns_cx w) Try.func18 (by kernel_rfl) [sSel a, sSel b] (by intro ρ; simp only [sSel, SV.den, SV.dens, den_c, den_x, den_t, den_ar, den_bt, den_dv, den_sh, den_cv, den_mx, den_mn, den_sel, bden_c, bden_x, bden_t, bden_cmp, bden_not, bden_and, bden_eqb, cmpI, arI, dvI, shI, cS]) ?_
  cbv
  (repeat' (first | (((with_reducible refine And.intro (fun h => ?_) (fun h => ?_))) <;> (first | with_reducible exact (tf h (by assumption)).elim | with_reducible exact (tf (by assumption) h).elim | cbv)) | ((with_reducible refine Ob.mk (fun _ => ?_) ?_); rotate_left 1) | ((with_reducible refine AllIn.mk (fun x hx0 hx1 => ?_)); cbv) | ((with_reducible refine AllT.mk (fun x hx => ?_)); cbv) | ((with_reducible refine DrK.mk ?_ ?_ ?_); (first | exact ⟨_, List.mem_cons_self, _, _, _, _, (by assumption)⟩ | exact ⟨_, List.mem_cons_of_mem _ List.mem_cons_self, _, _, _, _, (by assumption)⟩); first | rfl | assumption | skip) | ((with_reducible refine NewK.mk ?_ ?_ (fun p F a n cap l hp hF => ?_)); (first | exact ⟨_, List.mem_cons_self, _, (by assumption)⟩ | exact ⟨_, List.mem_cons_of_mem _ List.mem_cons_self, _, (by assumption)⟩); rotate_left 1; cbv) | (with_reducible refine And.intro ?_ ?_)))
  all_goals
    simp only [SV.den, SV.dens, den_c, den_x, den_t, den_ar, den_bt, den_dv, den_sh, den_cv, den_mx, den_mn, den_sel, bden_c, bden_x, bden_t, bden_cmp, bden_not, bden_and, bden_eqb, cmpI, arI, dvI, shI] at *
    have hm : meet a b = x := hx.eq
    intro ρ
    simp only [insB, hm, selEq, h, Bool.true_and, Bool.false_and]
def insF : List SV → Option SV
  | [.agg [.int .i64 a1, .int .i64 a2, .int .i64 a3, .int .i64 a4, .int .u64 a5, .int .u64 a6, .int .i64 a7, .int .u64 a8, .int .u64 a9], .agg [.int .i64 b1, .int .i64 b2, .int .i64 b3, .int .i64 b4, .int .u64 b5, .int .u64 b6, .int .i64 b7, .int .u64 b8, .int .u64 b9]] =>
    some (.bool (.t fun _ => insB ⟨a1.den, a2.den, a3.den, ⟨a4.den, a5.den, a6.den⟩, ⟨a7.den, a8.den, a9.den⟩⟩ ⟨b1.den, b2.den, b3.den, ⟨b4.den, b5.den, b6.den⟩, ⟨b7.den, b8.den, b9.den⟩⟩))
  | _ => none
theorem ins_fn : hasFn Try.prog 18 := ⟨_, Try.func18, by rfl, by rfl⟩
theorem ins_sp {keep : World → Prop} {B : Nat} (hkeep : ∀ w w', keep w → Below B w w' → keep w') : SpecOk Try.prog keep B 18 (pSpec insF) :=
  pSpec_ok ins_fn (fun args v h => by
    unfold insF at h
    split at h
    · cases h
      refine ⟨fun _ _ _ => rfl, fun ρ w => ?_⟩
      simp only [SV.den, SV.dens, den_c, den_x, den_t, den_ar, den_bt, den_dv, den_sh, den_cv, den_mx, den_mn, den_sel, bden_c, bden_x, bden_t, bden_cmp, bden_not, bden_and, bden_eqb, cmpI, arI, dvI, shI]
      exact sel_Inside _ _ w
    · cases h) hkeep
def awA : Sel := ⟨0, 0, 65535, ⟨4, 0, 167772160⟩, ⟨4, 0, 167772415⟩⟩
def awB : Sel := ⟨0, 80, 90, ⟨4, 0, 167772168⟩, ⟨4, 0, 167772416⟩⟩
theorem aw_meet : meet awA awB = (⟨0, 80, 90, ⟨4, 0, 167772168⟩, ⟨4, 0, 167772415⟩⟩, true) := rfl
theorem awake05 (w : World) : Calls Try.prog 14 #[] w fun e w' => e = .returned (.bool true) ∧ Below w.heap.size w w' := by
  refine pure_fn (spIns_cx w) Try.func14 (by kernel_rfl) [] (by intro ρ; simp only [SV.den, SV.dens, den_c, den_x, den_t, den_ar, den_bt, den_dv, den_sh, den_cv, den_mx, den_mn, den_sel, bden_c, bden_x, bden_t, bden_cmp, bden_not, bden_and, bden_eqb, cmpI, arI, dvI, shI]) ?_
  cbv
  (repeat' (first | (((with_reducible refine And.intro (fun h => ?_) (fun h => ?_))) <;> (first | with_reducible exact (tf h (by assumption)).elim | with_reducible exact (tf (by assumption) h).elim | cbv)) | ((with_reducible refine Ob.mk (fun _ => ?_) ?_); rotate_left 1) | ((with_reducible refine AllIn.mk (fun x hx0 hx1 => ?_)); cbv) | ((with_reducible refine AllT.mk (fun x hx => ?_)); cbv) | ((with_reducible refine DrK.mk ?_ ?_ ?_); (first | exact ⟨_, List.mem_cons_self, _, _, _, _, (by assumption)⟩ | exact ⟨_, List.mem_cons_of_mem _ List.mem_cons_self, _, _, _, _, (by assumption)⟩); first | rfl | assumption | skip) | ((with_reducible refine NewK.mk ?_ ?_ (fun p F a n cap l hp hF => ?_)); (first | exact ⟨_, List.mem_cons_self, _, (by assumption)⟩ | exact ⟨_, List.mem_cons_of_mem _ List.mem_cons_self, _, (by assumption)⟩); rotate_left 1; cbv) | (with_reducible refine And.intro ?_ ?_)))
  all_goals
    simp only [SV.den, SV.dens, den_c, den_x, den_t, den_ar, den_bt, den_dv, den_sh, den_cv, den_mx, den_mn, den_sel, bden_c, bden_x, bden_t, bden_cmp, bden_not, bden_and, bden_eqb, cmpI, arI, dvI, shI] at *
    obtain rfl := aw_meet.symm.trans hx.eq
    first | cases h | skip
  intro ρ
  rfl
def awF : List SV → Option SV
  | [] => some (.bool (.c true))
  | _ => none
theorem aw05_fn : hasFn Try.prog 14 := ⟨_, Try.func14, by rfl, by rfl⟩
theorem aw05_sp {keep : World → Prop} {B : Nat} (hkeep : ∀ w w', keep w → Below B w w' → keep w') : SpecOk Try.prog keep B 14 (pSpec awF) :=
  pSpec_ok aw05_fn (fun args v h => by
    unfold awF at h
    split at h
    · cases h
      refine ⟨fun _ _ _ => rfl, fun ρ w => ?_⟩
      simp only [SV.den, SV.dens, den_c, den_x, den_t, den_ar, den_bt, den_dv, den_sh, den_cv, den_mx, den_mn, den_sel, bden_c, bden_x, bden_t, bden_cmp, bden_not, bden_and, bden_eqb, cmpI, arI, dvI, shI]
      exact awake05 w
    · cases h) hkeep
def spMeets (B0 : Nat) : SpecT := nd0 17 (nd0 15 (lf0 14 (pSpec awF)) (nd0 16 (lf0 15 (newSpec 94 (fun q => B0 ≤ q))) (lf0 16 (dSpec 94 (fun q => B0 ≤ q) selrDF)))) (nd0 18 (lf0 17 (nSpec meetDF)) (nd0 24 (lf0 18 (pSpec insF)) (lf0 24 (dSpec 94 (fun q => B0 ≤ q) nextF))))
theorem spMeets_ok (w : World) : SpecT.ok Try.prog (Below w.heap.size w) w.heap.size (spMeets w.heap.size) := by
  have hkeep := keep_below w w.heap.size
  have hk2 := keepL w
  exact (nd0_ok (nd0_ok (lf0_ok (aw05_sp hkeep)) (nd0_ok (lf0_ok (new_sp (fun _ h => h) hkeep)) (lf0_ok (dSpec_ok selr_fn selr_draw hk2)))) (nd0_ok (lf0_ok (meet_sp hkeep)) (nd0_ok (lf0_ok (ins_sp hkeep)) (lf0_ok (dSpec_ok next_fn next_draw hk2)))))
theorem spMeets_cx (w : World) (B0 : Nat) (hB : B0 = w.heap.size) : Cx.ok ⟨tt, qt, spMeets B0, noO⟩ Try.prog (Below w.heap.size w) w.heap.size := ⟨tt_ok, qt_ok, hB ▸ spMeets_ok w, noO_ok _ _ _, keep_below w _, mixed_ok⟩
theorem law_SelectorMeets (a : Option Addr) (len cap : Nat) (l : List UInt8) (w : World) (h : Bs w a len cap l) :
    Calls Try.prog 3 #[.slice a len cap] w fun e w' => e = .returned (.bool true) ∧ Below w.heap.size w w' := by
  obtain ⟨B, hB⟩ : ∃ B, B = w.heap.size := ⟨_, rfl⟩
  refine law_of_vc (spMeets_cx w B hB) Try.func3 (by kernel_rfl) h [.val (.slice a len cap)] (by intro ρ; simp only [SV.den, SV.dens, den_c, den_x, den_t, den_ar, den_bt, den_dv, den_sh, den_cv, den_mx, den_mn, den_sel, bden_c, bden_x, bden_t, bden_cmp, bden_not, bden_and, bden_eqb, cmpI, arI, dvI, shI]) ?_
  intro F hF
  clear hB
  cbv
  with_reducible refine NewK.mk ?_ ?_ (fun p F1 a1 n1 cap1 l1 hp hF1 => ?_)
  · (first | exact ⟨_, List.mem_cons_self, _, (by assumption)⟩ | exact ⟨_, List.mem_cons_of_mem _ List.mem_cons_self, _, (by assumption)⟩ | exact ⟨_, List.mem_cons_of_mem _ (List.mem_cons_of_mem _ List.mem_cons_self), _, (by assumption)⟩)
  · simp only [SV.den, SV.dens, den_c, den_x, den_t, den_ar, den_bt, den_dv, den_sh, den_cv, den_mx, den_mn, den_sel, bden_c, bden_x, bden_t, bden_cmp, bden_not, bden_and, bden_eqb, cmpI, arI, dvI, shI]; decide
  cbv
  with_reducible refine DrK.mk ?_ ?_ ?_
  · (first | exact ⟨_, List.mem_cons_self, _, _, _, _, (by assumption)⟩ | exact ⟨_, List.mem_cons_of_mem _ List.mem_cons_self, _, _, _, _, (by assumption)⟩ | exact ⟨_, List.mem_cons_of_mem _ (List.mem_cons_of_mem _ List.mem_cons_self), _, _, _, _, (by assumption)⟩)
  · first | rfl | assumption
  with_reducible refine AllT.mk (fun a ga => ?_)
  cbv
  with_reducible refine DrK.mk ?_ ?_ ?_
  · (first | exact ⟨_, List.mem_cons_self, _, _, _, _, (by assumption)⟩ | exact ⟨_, List.mem_cons_of_mem _ List.mem_cons_self, _, _, _, _, (by assumption)⟩ | exact ⟨_, List.mem_cons_of_mem _ (List.mem_cons_of_mem _ List.mem_cons_self), _, _, _, _, (by assumption)⟩)
  · first | rfl | assumption
  with_reducible refine AllT.mk (fun b gb => ?_)
  cbv
  with_reducible refine DrK.mk ?_ ?_ ?_
  · (first | exact ⟨_, List.mem_cons_self, _, _, _, _, (by assumption)⟩ | exact ⟨_, List.mem_cons_of_mem _ List.mem_cons_self, _, _, _, _, (by assumption)⟩ | exact ⟨_, List.mem_cons_of_mem _ (List.mem_cons_of_mem _ List.mem_cons_self), _, _, _, _, (by assumption)⟩)
  · first | rfl | assumption
  with_reducible refine AllT.mk (fun d gd => ?_)
  cbv
  with_reducible refine AllT.mk (fun x hx => ?_)
  cbv
  with_reducible refine AllT.mk (fun y hy => ?_)
  cbv
  with_reducible refine AllT.mk (fun s hs => ?_)
  cbv
  replace hx : meet a b = x := hx.eq
  obtain rfl : y = x := by rw [← hx, meet_comm ga.1.toOk gb.1.toOk]; exact hy.eq.symm
  obtain rfl : s = (a, true) := hs.eq.symm.trans (meet_self ga.1.toOk)
  have HL := meet_assoc ga.1.toOk gb.1.toOk gd.1.toOk
  simp only [left3, right3, hx] at HL
  clear hy hs
  cbv
  (repeat' (first | (((with_reducible refine And.intro (fun h => ?_) (fun h => ?_))) <;> (first | with_reducible exact (tf h (by assumption)).elim | with_reducible exact (tf (by assumption) h).elim | cbv)) | ((with_reducible refine Ob.mk (fun _ => ?_) ?_); rotate_left 1) | ((with_reducible refine AllIn.mk (fun x hx0 hx1 => ?_)); cbv) | ((with_reducible refine AllT.mk (fun x hx => ?_)); cbv) | ((with_reducible refine DrK.mk ?_ ?_ ?_); (first | exact ⟨_, List.mem_cons_self, _, _, _, _, (by assumption)⟩ | exact ⟨_, List.mem_cons_of_mem _ List.mem_cons_self, _, _, _, _, (by assumption)⟩); first | rfl | assumption | skip) | ((with_reducible refine NewK.mk ?_ ?_ (fun p F a n cap l hp hF => ?_)); (first | exact ⟨_, List.mem_cons_self, _, (by assumption)⟩ | exact ⟨_, List.mem_cons_of_mem _ List.mem_cons_self, _, (by assumption)⟩); rotate_left 1; cbv) | (with_reducible refine And.intro ?_ ?_)))
  all_goals first
    | (simp only [SV.den, SV.dens, den_c, den_x, den_t, den_ar, den_bt, den_dv, den_sh, den_cv, den_mx, den_mn, den_sel, bden_c, bden_x, bden_t, bden_cmp, bden_not, bden_and, bden_eqb, cmpI, arI, dvI, shI] at *; omega)
    | (intro ρ
       clear hF hF1
       repeat (rename MeetIs _ _ _ => q; cases q)
       simp only [SV.den, SV.dens, den_c, den_x, den_t, den_ar, den_bt, den_dv, den_sh, den_cv, den_mx, den_mn, den_sel, bden_c, bden_x, bden_t, bden_cmp, bden_not, bden_and, bden_eqb, cmpI, arI, dvI, shI] at *
       simp_all [insB, selEq, sel_eta, Sel.zero, Adr.zero]
       all_goals first
         | (subst HL; simp at *; done)
         | (have q := congrArg Prod.snd HL; simp_all))
end Go.Proofs.Ytiinlanpinanhaa
