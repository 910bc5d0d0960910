/- Selectors that are drawn. -/
import Derived.Test.YtiinlanpinanhaaSdA
import Derived.Test.YtiinlanpinanhaaSelS
set_option linter.unusedVariables false
set_option linter.unusedSimpArgs false
namespace Go.Proofs.Ytiinlanpinanhaa
open Go.RowKit
set_option maxHeartbeats 4000000
set_option maxRecDepth 100000
theorem selGood {f pr pl ph : Int} {a b : Adr} (h : SpanP f (a, b)) (hp : 0 ≤ pr ∧ pr ≤ 255) (hq : (pl = 65535 ∧ ph = 0) ∨ (0 ≤ pl ∧ pl ≤ ph ∧ ph ≤ 65535)) :
    Sel.good ⟨pr, pl, ph, a, b⟩ := by
  obtain ⟨ha, hb, hk⟩ := h
  exact ⟨⟨ha.ok, hb.ok, by rw [ha.fam, hb.fam], hk, hp.1, hp.2, hq⟩, ha.val, hb.val⟩
def SelG (f : Int) (s : Sel) : Prop := s.good ∧ s.lo.fam = f
def spSelr (p : Nat) : SpecT := nd0 55 (lf0 24 (dSpec 94 (fun q => q = p) nextF)) (lf0 55 (dSpec 94 (fun q => q = p) spanDF))
theorem spSelr_ok (w : World) (p : Nat) : SpecT.ok Try.prog (Keep w.heap.size p w) w.heap.size (spSelr p) := by
  have hkeep := keepB w p
  have hk2 := keepK w p
  exact (nd0_ok (lf0_ok (dSpec_ok next_fn next_draw hk2)) (lf0_ok (dSpec_ok span_fn span_draw hk2)))
theorem spSelr_cx (w : World) (p : Nat) : Cx.ok ⟨tt, qt, spSelr p, noO⟩ Try.prog (Keep w.heap.size p w) w.heap.size := ⟨tt_ok, qt_ok, spSelr_ok w p, noO_ok _ _ _, keepB w p, mixed_ok⟩
theorem selr_fn : hasFn Try.prog 16 := ⟨_, Try.func16, by rfl, by rfl⟩
def selrDF : DF := fun rest K =>
  match rest with
  | [.int .i64 (.c 4)] => AllT (SelG 4) fun x => K (sSel x)
  | [.int .i64 (.c 6)] => AllT (SelG 6) fun x => K (sSel x)
  | _ => False
theorem selp_in (x : Int) (h0 : 0 ≤ x) (h1 : x < 5) : 0 ≤ selI [0, 0, 6, 17, 1] x ∧ selI [0, 0, 6, 17, 1] x ≤ 255 := by
  rcases (show x = 0 ∨ x = 1 ∨ x = 2 ∨ x = 3 ∨ x = 4 from by omega) with rfl | rfl | rfl | rfl | rfl <;> decide
theorem selq_in (x y : Int) (h0 : 0 ≤ x) (h1 : x < 5) (h2 : 0 ≤ y) (h3 : y < 6) : 0 ≤ selI [0, 80, 443, 65530, 1] x ∧ selI [0, 80, 443, 65530, 1] x ≤ (if IntKind.i64.wrap (selI [0, 80, 443, 65530, 1] x + y) < 65535 then IntKind.i64.wrap (selI [0, 80, 443, 65530, 1] x + y) else 65535) ∧ (if IntKind.i64.wrap (selI [0, 80, 443, 65530, 1] x + y) < 65535 then IntKind.i64.wrap (selI [0, 80, 443, 65530, 1] x + y) else 65535) ≤ 65535 := by
  have hx : 0 ≤ selI [0, 80, 443, 65530, 1] x ∧ selI [0, 80, 443, 65530, 1] x ≤ 65530 := by
    rcases (show x = 0 ∨ x = 1 ∨ x = 2 ∨ x = 3 ∨ x = 4 from by omega) with rfl | rfl | rfl | rfl | rfl <;> decide
  generalize selI [0, 80, 443, 65530, 1] x = z at *
  rw [IntKind.wrap_i64]
  split <;> omega
theorem sel_ex {f pr pl ph : Int} {p : Adr × Adr} (h : SpanP f p) (hp : 0 ≤ pr ∧ pr ≤ 255) (hq : (pl = 65535 ∧ ph = 0) ∨ (0 ≤ pl ∧ pl ≤ ph ∧ ph ≤ 65535)) :
    ∃ x, SelG f x ∧ ∀ ρ, Value.agg #[.int .i64 pr, .int .i64 pl, .int .i64 ph, .int .i64 p.1.1, .int .u64 p.1.2, .int .u64 p.1.3, .int .i64 p.2.1, .int .u64 p.2.2, .int .u64 p.2.3] = SV.den ρ (sSel x) :=
  ⟨⟨pr, pl, ph, p.1, p.2⟩, ⟨selGood h hp hq, h.1.fam⟩, fun _ => by simp only [sSel, SV.den, SV.dens, den_c, den_x, den_t, den_ar, den_bt, den_dv, den_sh, den_cv, den_mx, den_mn, den_sel, bden_c, bden_x, bden_t, bden_cmp, bden_not, bden_and, bden_eqb, cmpI, arI, dvI, shI]⟩
theorem selr_draw : DrawOk Try.prog 94 16 selrDF := by
  intro rest K h ρ p a n cap l w hc
  unfold selrDF at h
  split at h
  · refine draw_all Try.func16 (by kernel_rfl) hc (spSelr_cx w p) [.int .i64 (.c 4)] (fun ρ ρ' => rfl) h (fun x ρ ρ' => rfl) ?_ ρ
    intro F hF
    cbv
    (repeat' (first | (((with_reducible refine And.intro (fun h => ?_) (fun h => ?_))) <;> (first | with_reducible exact (tf h (by assumption)).elim | with_reducible exact (tf (by assumption) h).elim | cbv)) | ((with_reducible refine Ob.mk (fun _ => ?_) ?_); rotate_left 1) | ((with_reducible refine AllIn.mk (fun x hx0 hx1 => ?_)); cbv) | ((with_reducible refine AllT.mk (fun x hx => ?_)); cbv) | ((with_reducible refine DrK.mk ?_ ?_ ?_); (first | exact ⟨_, List.mem_cons_self, _, _, _, _, (by assumption)⟩ | exact ⟨_, List.mem_cons_of_mem _ List.mem_cons_self, _, _, _, _, (by assumption)⟩); first | rfl | assumption | skip) | ((with_reducible refine NewK.mk ?_ ?_ (fun p F a n cap l hp hF => ?_)); (first | exact ⟨_, List.mem_cons_self, _, (by assumption)⟩ | exact ⟨_, List.mem_cons_of_mem _ List.mem_cons_self, _, (by assumption)⟩); rotate_left 1; cbv) | (with_reducible refine And.intro ?_ ?_)))
    all_goals first
      | trivial
      | (simp only [SV.den, SV.dens, den_c, den_x, den_t, den_ar, den_bt, den_dv, den_sh, den_cv, den_mx, den_mn, den_sel, bden_c, bden_x, bden_t, bden_cmp, bden_not, bden_and, bden_eqb, cmpI, arI, dvI, shI, decide_eq_true_eq, decide_eq_false_iff_not, beq_iff_eq, beq_eq_false_iff_ne, bne_iff_ne, bne_eq_false_iff_eq, ne_eq, Bool.and_eq_true, Bool.or_eq_true, Bool.and_eq_false_iff, Bool.or_eq_false_iff, Bool.not_eq_true, Int.ofNat_eq_natCast] at *; omega)
      | (simp only [SV.den, SV.dens, den_c, den_x, den_t, den_ar, den_bt, den_dv, den_sh, den_cv, den_mx, den_mn, den_sel, bden_c, bden_x, bden_t, bden_cmp, bden_not, bden_and, bden_eqb, cmpI, arI, dvI, shI]; decide)
      | (simp only [SV.den, SV.dens, den_c, den_x, den_t, den_ar, den_bt, den_dv, den_sh, den_cv, den_mx, den_mn, den_sel, bden_c, bden_x, bden_t, bden_cmp, bden_not, bden_and, bden_eqb, cmpI, arI, dvI, shI, decide_eq_true_eq, decide_eq_false_iff_not, beq_iff_eq, beq_eq_false_iff_ne, bne_iff_ne, bne_eq_false_iff_eq, ne_eq, Bool.and_eq_true, Bool.or_eq_true, Bool.and_eq_false_iff, Bool.or_eq_false_iff, Bool.not_eq_true, Int.ofNat_eq_natCast] at *; exact sel_ex (by assumption) (selp_in _ (by assumption) (by assumption)) (by first | exact .inl ⟨rfl, rfl⟩ | exact .inr (by omega) | exact .inr (selq_in _ _ (by assumption) (by assumption) (by assumption) (by assumption))))
  · refine draw_all Try.func16 (by kernel_rfl) hc (spSelr_cx w p) [.int .i64 (.c 6)] (fun ρ ρ' => rfl) h (fun x ρ ρ' => rfl) ?_ ρ
    intro F hF
    cbv
    (repeat' (first | (((with_reducible refine And.intro (fun h => ?_) (fun h => ?_))) <;> (first | with_reducible exact (tf h (by assumption)).elim | with_reducible exact (tf (by assumption) h).elim | cbv)) | ((with_reducible refine Ob.mk (fun _ => ?_) ?_); rotate_left 1) | ((with_reducible refine AllIn.mk (fun x hx0 hx1 => ?_)); cbv) | ((with_reducible refine AllT.mk (fun x hx => ?_)); cbv) | ((with_reducible refine DrK.mk ?_ ?_ ?_); (first | exact ⟨_, List.mem_cons_self, _, _, _, _, (by assumption)⟩ | exact ⟨_, List.mem_cons_of_mem _ List.mem_cons_self, _, _, _, _, (by assumption)⟩); first | rfl | assumption | skip) | ((with_reducible refine NewK.mk ?_ ?_ (fun p F a n cap l hp hF => ?_)); (first | exact ⟨_, List.mem_cons_self, _, (by assumption)⟩ | exact ⟨_, List.mem_cons_of_mem _ List.mem_cons_self, _, (by assumption)⟩); rotate_left 1; cbv) | (with_reducible refine And.intro ?_ ?_)))
    all_goals first
      | trivial
      | (simp only [SV.den, SV.dens, den_c, den_x, den_t, den_ar, den_bt, den_dv, den_sh, den_cv, den_mx, den_mn, den_sel, bden_c, bden_x, bden_t, bden_cmp, bden_not, bden_and, bden_eqb, cmpI, arI, dvI, shI, decide_eq_true_eq, decide_eq_false_iff_not, beq_iff_eq, beq_eq_false_iff_ne, bne_iff_ne, bne_eq_false_iff_eq, ne_eq, Bool.and_eq_true, Bool.or_eq_true, Bool.and_eq_false_iff, Bool.or_eq_false_iff, Bool.not_eq_true, Int.ofNat_eq_natCast] at *; omega)
      | (simp only [SV.den, SV.dens, den_c, den_x, den_t, den_ar, den_bt, den_dv, den_sh, den_cv, den_mx, den_mn, den_sel, bden_c, bden_x, bden_t, bden_cmp, bden_not, bden_and, bden_eqb, cmpI, arI, dvI, shI]; decide)
      | (simp only [SV.den, SV.dens, den_c, den_x, den_t, den_ar, den_bt, den_dv, den_sh, den_cv, den_mx, den_mn, den_sel, bden_c, bden_x, bden_t, bden_cmp, bden_not, bden_and, bden_eqb, cmpI, arI, dvI, shI, decide_eq_true_eq, decide_eq_false_iff_not, beq_iff_eq, beq_eq_false_iff_ne, bne_iff_ne, bne_eq_false_iff_eq, ne_eq, Bool.and_eq_true, Bool.or_eq_true, Bool.and_eq_false_iff, Bool.or_eq_false_iff, Bool.not_eq_true, Int.ofNat_eq_natCast] at *; exact sel_ex (by assumption) (selp_in _ (by assumption) (by assumption)) (by first | exact .inl ⟨rfl, rfl⟩ | exact .inr (by omega) | exact .inr (selq_in _ _ (by assumption) (by assumption) (by assumption) (by assumption))))
  · exact h.elim
end Go.Proofs.Ytiinlanpinanhaa
