/- Addresses and selectors that are drawn. -/
import Derived.Test.YtiinlanpinanhaaSd
import Derived.Test.YtiinlanpinanhaaPfx
import Derived.Test.YtiinlanpinanhaaSelVal
set_option linter.unusedVariables false
set_option linter.unusedSimpArgs false
namespace Go.Proofs.Ytiinlanpinanhaa
open Go.RowKit
set_option maxHeartbeats 4000000
set_option maxRecDepth 100000
def sAdr (a : Adr) : SV := .agg [.int .i64 (.x a.fam), .int .u64 (.x a.hi), .int .u64 (.x a.lo)]
def spNext (p : Nat) : SpecT := lf0 24 (dSpec 94 (fun q => q = p) nextF)
theorem spNext_ok (w : World) (p : Nat) : SpecT.ok Try.prog (Keep w.heap.size p w) w.heap.size (spNext p) := by
  have hkeep := keepB w p
  have hk2 := keepK w p
  exact (lf0_ok (dSpec_ok next_fn next_draw hk2))
theorem spNext_cx (w : World) (p : Nat) : Cx.ok ⟨tt, qt, spNext p, noO⟩ Try.prog (Keep w.heap.size p w) w.heap.size := ⟨tt_ok, qt_ok, spNext_ok w p, noO_ok _ _ _, keepB w p, mixed_ok⟩
def adrDF : DF := fun rest K =>
  match rest with
  | [.int .i64 (.c 4)] => AllT (AdrF 4) fun x => K (sAdr x)
  | [.int .i64 (.c 6)] => AllT (AdrF 6) fun x => K (sAdr x)
  | _ => False
theorem adr_fn : hasFn Try.prog 33 := ⟨_, Try.func33, by rfl, by rfl⟩
theorem adr4_in (x y : Int) (h0 : 0 ≤ x) (h1 : x < 4) (h2 : 0 ≤ y) (h3 : y < 8) : AdrF 4 ⟨4, 0, IntKind.u64.wrap (selI [167772160, 3232235520, 0, 4294967288] x + IntKind.u64.wrap y)⟩ := by
  have hx : 0 ≤ selI [167772160, 3232235520, 0, 4294967288] x ∧ selI [167772160, 3232235520, 0, 4294967288] x ≤ 4294967288 := by
    rcases (show x = 0 ∨ x = 1 ∨ x = 2 ∨ x = 3 from by omega) with rfl | rfl | rfl | rfl <;> decide
  generalize selI [167772160, 3232235520, 0, 4294967288] x = z at *
  have e : IntKind.u64.wrap (z + IntKind.u64.wrap y) = z + y := by rw [IntKind.wrap_u64, IntKind.wrap_u64]; omega
  rw [e]
  exact ⟨rfl, ⟨by simp, by simp, by simp, by simp, by simp only; omega, by simp only; omega⟩, by simp [valid]; omega⟩
theorem adr6_in (x y z : Int) (h0 : 0 ≤ x) (h1 : x < 3) (h2 : 0 ≤ y) (h3 : y < 3) (h4 : 0 ≤ z) (h5 : z < 8) :
    AdrF 6 ⟨6, selI [2306139568115548160, 0, 18446744073709551615] x, IntKind.u64.wrap (selI [0, 18446744073709551608, 9223372036854775808] y + IntKind.u64.wrap z)⟩ := by
  have hx : 0 ≤ selI [2306139568115548160, 0, 18446744073709551615] x ∧ selI [2306139568115548160, 0, 18446744073709551615] x ≤ 18446744073709551615 := by
    rcases (show x = 0 ∨ x = 1 ∨ x = 2 from by omega) with rfl | rfl | rfl <;> decide
  have e := IntKind.wrap_u64 (selI [0, 18446744073709551608, 9223372036854775808] y + IntKind.u64.wrap z)
  refine ⟨rfl, ⟨by simp, by simp, by simp only; omega, by simp only; omega, ?_, ?_⟩, by simp [valid]⟩
  · simp only [e]; omega
  · simp only [e]; omega
theorem adr_draw : DrawOk Try.prog 94 33 adrDF := by
  intro rest K h ρ p a n cap l w hc
  unfold adrDF at h
  split at h
  · refine draw_all Try.func33 (by kernel_rfl) hc (spNext_cx w p) [.int .i64 (.c 4)] (fun ρ ρ' => rfl) h (fun x ρ ρ' => rfl) ?_ ρ
    intro F hF
    cbv
    (repeat' (first | (((with_reducible refine And.intro (fun h => ?_) (fun h => ?_))) <;> (first | with_reducible exact (tf h (by assumption)).elim | with_reducible exact (tf (by assumption) h).elim | cbv)) | ((with_reducible refine Ob.mk (fun _ => ?_) ?_); rotate_left 1) | ((with_reducible refine AllIn.mk (fun x hx0 hx1 => ?_)); cbv) | ((with_reducible refine AllT.mk (fun x hx => ?_)); cbv) | ((with_reducible refine DrK.mk ?_ ?_ ?_); (first | exact ⟨_, List.mem_cons_self, _, _, _, _, (by assumption)⟩ | exact ⟨_, List.mem_cons_of_mem _ List.mem_cons_self, _, _, _, _, (by assumption)⟩); first | rfl | assumption | skip) | ((with_reducible refine NewK.mk ?_ ?_ (fun p F a n cap l hp hF => ?_)); (first | exact ⟨_, List.mem_cons_self, _, (by assumption)⟩ | exact ⟨_, List.mem_cons_of_mem _ List.mem_cons_self, _, (by assumption)⟩); rotate_left 1; cbv) | (with_reducible refine And.intro ?_ ?_)))
    all_goals first
      | trivial
      | (simp only [SV.den, SV.dens, den_c, den_x, den_t, den_ar, den_bt, den_dv, den_sh, den_cv, den_mx, den_mn, den_sel, bden_c, bden_x, bden_t, bden_cmp, bden_not, bden_and, bden_eqb, cmpI, arI, dvI, shI] at *; omega)
      | (refine ex_of ⟨4, 0, _⟩ (fun ρ => by simp only [sAdr, SV.den, SV.dens, den_c, den_x, den_t, den_ar, den_bt, den_dv, den_sh, den_cv, den_mx, den_mn, den_sel, bden_c, bden_x, bden_t, bden_cmp, bden_not, bden_and, bden_eqb, cmpI, arI, dvI, shI]; rfl) ?_; simp only [SV.den, SV.dens, den_c, den_x, den_t, den_ar, den_bt, den_dv, den_sh, den_cv, den_mx, den_mn, den_sel, bden_c, bden_x, bden_t, bden_cmp, bden_not, bden_and, bden_eqb, cmpI, arI, dvI, shI] at *; exact adr4_in _ _ (by assumption) (by assumption) (by assumption) (by assumption))
  · refine draw_all Try.func33 (by kernel_rfl) hc (spNext_cx w p) [.int .i64 (.c 6)] (fun ρ ρ' => rfl) h (fun x ρ ρ' => rfl) ?_ ρ
    intro F hF
    cbv
    (repeat' (first | (((with_reducible refine And.intro (fun h => ?_) (fun h => ?_))) <;> (first | with_reducible exact (tf h (by assumption)).elim | with_reducible exact (tf (by assumption) h).elim | cbv)) | ((with_reducible refine Ob.mk (fun _ => ?_) ?_); rotate_left 1) | ((with_reducible refine AllIn.mk (fun x hx0 hx1 => ?_)); cbv) | ((with_reducible refine AllT.mk (fun x hx => ?_)); cbv) | ((with_reducible refine DrK.mk ?_ ?_ ?_); (first | exact ⟨_, List.mem_cons_self, _, _, _, _, (by assumption)⟩ | exact ⟨_, List.mem_cons_of_mem _ List.mem_cons_self, _, _, _, _, (by assumption)⟩); first | rfl | assumption | skip) | ((with_reducible refine NewK.mk ?_ ?_ (fun p F a n cap l hp hF => ?_)); (first | exact ⟨_, List.mem_cons_self, _, (by assumption)⟩ | exact ⟨_, List.mem_cons_of_mem _ List.mem_cons_self, _, (by assumption)⟩); rotate_left 1; cbv) | (with_reducible refine And.intro ?_ ?_)))
    all_goals first
      | trivial
      | (simp only [SV.den, SV.dens, den_c, den_x, den_t, den_ar, den_bt, den_dv, den_sh, den_cv, den_mx, den_mn, den_sel, bden_c, bden_x, bden_t, bden_cmp, bden_not, bden_and, bden_eqb, cmpI, arI, dvI, shI] at *; omega)
      | (refine ex_of ⟨6, _, _⟩ (fun ρ => by simp only [sAdr, SV.den, SV.dens, den_c, den_x, den_t, den_ar, den_bt, den_dv, den_sh, den_cv, den_mx, den_mn, den_sel, bden_c, bden_x, bden_t, bden_cmp, bden_not, bden_and, bden_eqb, cmpI, arI, dvI, shI]; rfl) ?_; simp only [SV.den, SV.dens, den_c, den_x, den_t, den_ar, den_bt, den_dv, den_sh, den_cv, den_mx, den_mn, den_sel, bden_c, bden_x, bden_t, bden_cmp, bden_not, bden_and, bden_eqb, cmpI, arI, dvI, shI] at *; exact adr6_in _ _ _ (by assumption) (by assumption) (by assumption) (by assumption) (by assumption) (by assumption))
  · exact h.elim
theorem prefix_fn : hasFn Try.prog 96 := ⟨_, Try.func96, by rfl, by rfl⟩
theorem rall_fn : hasFn Try.prog 95 := ⟨_, Try.func95, by rfl, by rfl⟩
def SpanP (f : Int) (p : Adr × Adr) : Prop := AdrF f p.1 ∧ AdrF f p.2 ∧ key p.1 ≤ key p.2
def prefixDF : DF := fun args K =>
  match args with
  | [.agg [.int .i64 f, .int .u64 h, .int .u64 l], .int .i64 n] => Ob (fun _ => ∃ g, AdrF g ⟨f.den, h.den, l.den⟩ ∧ 0 ≤ n.den ∧ n.den ≤ bt g) (AllT (SpanP f.den) fun p => K (.tup [sAdr p.1, sAdr p.2, .int .i64 (.c 0)]))
  | _ => False
theorem prefix_pure : PureOk Try.prog 96 prefixDF := by
  intro args K h ρ w
  unfold prefixDF at h
  split at h
  · rename_i f hh l n
    obtain ⟨g, ha, h0, h1⟩ := h.ob ()
    obtain rfl : f.den = g := ha.fam
    simp only [SV.den, SV.dens, den_c, den_x, den_t, den_ar, den_bt, den_dv, den_sh, den_cv, den_mx, den_mn, den_sel, bden_c, bden_x, bden_t, bden_cmp, bden_not, bden_and, bden_eqb, cmpI, arI, dvI, shI]
    refine (ref_PrefixI ⟨f.den, hh.den, l.den⟩ f.den n.den w ha h0 h1).mono ?_
    rintro e w' ⟨⟨x, y, rfl, hx, hy, hk⟩, hb⟩
    exact ⟨.tup [sAdr x, sAdr y, .int .i64 (.c 0)], by simp only [SV.den, SV.dens, den_c, den_x, den_t, den_ar, den_bt, den_dv, den_sh, den_cv, den_mx, den_mn, den_sel, bden_c, bden_x, bden_t, bden_cmp, bden_not, bden_and, bden_eqb, cmpI, arI, dvI, shI, sAdr, cA], fun _ _ => rfl, h.k.all (x, y) ⟨hx, hy, hk⟩, hb⟩
  · exact h.elim
def allDF : DF := fun args K =>
  match args with
  | [.int .i64 f] => Ob (fun _ => f.den = 4 ∨ f.den = 6) (AllT (SpanP f.den) fun p => K (.tup [sAdr p.1, sAdr p.2]))
  | _ => False
theorem all_pure : PureOk Try.prog 95 allDF := by
  intro args K h ρ w
  unfold allDF at h
  split at h
  · rename_i f
    have hf := h.ob ()
    simp only [SV.den, SV.dens, den_c, den_x, den_t, den_ar, den_bt, den_dv, den_sh, den_cv, den_mx, den_mn, den_sel, bden_c, bden_x, bden_t, bden_cmp, bden_not, bden_and, bden_eqb, cmpI, arI, dvI, shI]
    refine (ref_All f.den w hf).mono ?_
    rintro e w' ⟨rfl, hb⟩
    have := span_all f.den hf
    exact ⟨.tup [sAdr (pL f.den 0 0 (bt f.den)), sAdr (pH f.den 0 0 (bt f.den))], by simp only [SV.den, SV.dens, den_c, den_x, den_t, den_ar, den_bt, den_dv, den_sh, den_cv, den_mx, den_mn, den_sel, bden_c, bden_x, bden_t, bden_cmp, bden_not, bden_and, bden_eqb, cmpI, arI, dvI, shI, sAdr, cA], fun _ _ => rfl, h.k.all (_, _) this, hb⟩
  · exact h.elim
theorem prefix_sp {keep : World → Prop} {B : Nat} (hkeep : ∀ w w', keep w → Below B w w' → keep w') : SpecOk Try.prog keep B 96 (nSpec prefixDF) := nSpec_ok prefix_fn prefix_pure hkeep
theorem rall_sp {keep : World → Prop} {B : Nat} (hkeep : ∀ w w', keep w → Below B w w' → keep w') : SpecOk Try.prog keep B 95 (nSpec allDF) := nSpec_ok rall_fn all_pure hkeep
def spSpan (p : Nat) : SpecT := nd0 95 (nd0 33 (lf0 24 (dSpec 94 (fun q => q = p) nextF)) (lf0 33 (dSpec 94 (fun q => q = p) adrDF))) (nd0 96 (lf0 95 (nSpec allDF)) (lf0 96 (nSpec prefixDF)))
theorem spSpan_ok (w : World) (p : Nat) : SpecT.ok Try.prog (Keep w.heap.size p w) w.heap.size (spSpan p) := by
  have hkeep := keepB w p
  have hk2 := keepK w p
  exact (nd0_ok (nd0_ok (lf0_ok (dSpec_ok next_fn next_draw hk2)) (lf0_ok (dSpec_ok adr_fn adr_draw hk2))) (nd0_ok (lf0_ok (rall_sp hkeep)) (lf0_ok (prefix_sp hkeep))))
theorem spSpan_cx (w : World) (p : Nat) : Cx.ok ⟨tt, qt, spSpan p, noO⟩ Try.prog (Keep w.heap.size p w) w.heap.size := ⟨tt_ok, qt_ok, spSpan_ok w p, noO_ok _ _ _, keepB w p, mixed_ok⟩
theorem span_fn : hasFn Try.prog 55 := ⟨_, Try.func55, by rfl, by rfl⟩
def sSpan (p : Adr × Adr) : SV := .tup [sAdr p.1, sAdr p.2]
def spanDF : DF := fun rest K =>
  match rest with
  | [.int .i64 (.c 4)] => AllT (SpanP 4) fun x => K (sSpan x)
  | [.int .i64 (.c 6)] => AllT (SpanP 6) fun x => K (sSpan x)
  | _ => False
theorem span_pair {f : Int} {a b : Adr} (ha : AdrF f a) (hb : AdrF f b) (h : a.hi < b.hi ∨ (a.hi = b.hi ∧ a.lo ≤ b.lo)) : SpanP f (a, b) := by
  refine ⟨ha, hb, ?_⟩
  have := ha.ok.l1; have := ha.ok.l0; have := hb.ok.l0; have := hb.ok.l1; have := ha.fam; have := hb.fam
  simp only [key]
  omega
theorem span_ex1 {f : Int} {p : Adr × Adr} (h : SpanP f p) : ∃ x, SpanP f x ∧ ∀ ρ, Value.tuple #[.agg #[.int .i64 p.1.1, .int .u64 p.1.2, .int .u64 p.1.3], .agg #[.int .i64 p.2.1, .int .u64 p.2.2, .int .u64 p.2.3]] = SV.den ρ (sSpan x) := ⟨p, h, fun _ => by simp only [sSpan, sAdr, SV.den, SV.dens, den_c, den_x, den_t, den_ar, den_bt, den_dv, den_sh, den_cv, den_mx, den_mn, den_sel, bden_c, bden_x, bden_t, bden_cmp, bden_not, bden_and, bden_eqb, cmpI, arI, dvI, shI]⟩
theorem span_ex {f : Int} {a b : Adr} (ha : AdrF f a) (hb : AdrF f b) (h : a.hi < b.hi ∨ (a.hi = b.hi ∧ a.lo ≤ b.lo)) : ∃ x, SpanP f x ∧ ∀ ρ, Value.tuple #[.agg #[.int .i64 a.1, .int .u64 a.2, .int .u64 a.3], .agg #[.int .i64 b.1, .int .u64 b.2, .int .u64 b.3]] = SV.den ρ (sSpan x) :=
  ⟨(a, b), span_pair ha hb h, fun _ => by simp only [sSpan, sAdr, SV.den, SV.dens, den_c, den_x, den_t, den_ar, den_bt, den_dv, den_sh, den_cv, den_mx, den_mn, den_sel, bden_c, bden_x, bden_t, bden_cmp, bden_not, bden_and, bden_eqb, cmpI, arI, dvI, shI]⟩
theorem span_fam {f : Int} {a : Adr} {y : Adr × Adr} (ha : AdrF f a) (h : SpanP a.fam y) : SpanP f y := ha.fam ▸ h
theorem ob_pfx {f : Int} {a : Adr} {n : Int} (ha : AdrF f a) (h0 : 0 ≤ n) (h1 : n < 25) (hf : 32 ≤ bt f) : ∃ g, AdrF g ⟨a.fam, a.hi, a.lo⟩ ∧ 0 ≤ IntKind.i64.wrap (8 + n) ∧ IntKind.i64.wrap (8 + n) ≤ bt g :=
  ⟨f, ha, by rw [IntKind.wrap_i64]; omega, by rw [IntKind.wrap_i64]; omega⟩
theorem span_draw : DrawOk Try.prog 94 55 spanDF := by
  intro rest K h ρ p a n cap l w hc
  unfold spanDF at h
  split at h
  · refine draw_all Try.func55 (by kernel_rfl) hc (spSpan_cx w p) [.int .i64 (.c 4)] (fun ρ ρ' => rfl) h (fun x ρ ρ' => rfl) ?_ ρ
    intro F hF
    cbv
    (repeat' (first | (((with_reducible refine And.intro (fun h => ?_) (fun h => ?_))) <;> (first | with_reducible exact (tf h (by assumption)).elim | with_reducible exact (tf (by assumption) h).elim | cbv)) | ((with_reducible refine Ob.mk (fun _ => ?_) ?_); rotate_left 1) | ((with_reducible refine AllIn.mk (fun x hx0 hx1 => ?_)); cbv) | ((with_reducible refine AllT.mk (fun x hx => ?_)); cbv) | ((with_reducible refine DrK.mk ?_ ?_ ?_); (first | exact ⟨_, List.mem_cons_self, _, _, _, _, (by assumption)⟩ | exact ⟨_, List.mem_cons_of_mem _ List.mem_cons_self, _, _, _, _, (by assumption)⟩); first | rfl | assumption | skip) | ((with_reducible refine NewK.mk ?_ ?_ (fun p F a n cap l hp hF => ?_)); (first | exact ⟨_, List.mem_cons_self, _, (by assumption)⟩ | exact ⟨_, List.mem_cons_of_mem _ List.mem_cons_self, _, (by assumption)⟩); rotate_left 1; cbv) | (with_reducible refine And.intro ?_ ?_)))
    all_goals first
      | trivial
      | (simp only [SV.den, SV.dens, den_c, den_x, den_t, den_ar, den_bt, den_dv, den_sh, den_cv, den_mx, den_mn, den_sel, bden_c, bden_x, bden_t, bden_cmp, bden_not, bden_and, bden_eqb, cmpI, arI, dvI, shI] at *; omega)
      | (simp only [SV.den, SV.dens, den_c, den_x, den_t, den_ar, den_bt, den_dv, den_sh, den_cv, den_mx, den_mn, den_sel, bden_c, bden_x, bden_t, bden_cmp, bden_not, bden_and, bden_eqb, cmpI, arI, dvI, shI]; decide)
      | (exact ex_of _ (fun ρ => rfl) (by assumption))
      | (simp only [SV.den, SV.dens, den_c, den_x, den_t, den_ar, den_bt, den_dv, den_sh, den_cv, den_mx, den_mn, den_sel, bden_c, bden_x, bden_t, bden_cmp, bden_not, bden_and, bden_eqb, cmpI, arI, dvI, shI, decide_eq_true_eq, decide_eq_false_iff_not, beq_iff_eq, beq_eq_false_iff_ne, bne_iff_ne, bne_eq_false_iff_eq, ne_eq, Bool.and_eq_true, Bool.or_eq_true, Bool.and_eq_false_iff, Bool.or_eq_false_iff, Bool.not_eq_true, Int.ofNat_eq_natCast] at *; with_reducible first
          | exact ob_pfx (by assumption) (by assumption) (by assumption) (by decide)
          | exact span_ex1 (span_fam (by assumption) (by assumption))
          | exact span_ex (by assumption) (by assumption) (by omega))
  · refine draw_all Try.func55 (by kernel_rfl) hc (spSpan_cx w p) [.int .i64 (.c 6)] (fun ρ ρ' => rfl) h (fun x ρ ρ' => rfl) ?_ ρ
    intro F hF
    cbv
    (repeat' (first | (((with_reducible refine And.intro (fun h => ?_) (fun h => ?_))) <;> (first | with_reducible exact (tf h (by assumption)).elim | with_reducible exact (tf (by assumption) h).elim | cbv)) | ((with_reducible refine Ob.mk (fun _ => ?_) ?_); rotate_left 1) | ((with_reducible refine AllIn.mk (fun x hx0 hx1 => ?_)); cbv) | ((with_reducible refine AllT.mk (fun x hx => ?_)); cbv) | ((with_reducible refine DrK.mk ?_ ?_ ?_); (first | exact ⟨_, List.mem_cons_self, _, _, _, _, (by assumption)⟩ | exact ⟨_, List.mem_cons_of_mem _ List.mem_cons_self, _, _, _, _, (by assumption)⟩); first | rfl | assumption | skip) | ((with_reducible refine NewK.mk ?_ ?_ (fun p F a n cap l hp hF => ?_)); (first | exact ⟨_, List.mem_cons_self, _, (by assumption)⟩ | exact ⟨_, List.mem_cons_of_mem _ List.mem_cons_self, _, (by assumption)⟩); rotate_left 1; cbv) | (with_reducible refine And.intro ?_ ?_)))
    all_goals first
      | trivial
      | (simp only [SV.den, SV.dens, den_c, den_x, den_t, den_ar, den_bt, den_dv, den_sh, den_cv, den_mx, den_mn, den_sel, bden_c, bden_x, bden_t, bden_cmp, bden_not, bden_and, bden_eqb, cmpI, arI, dvI, shI] at *; omega)
      | (simp only [SV.den, SV.dens, den_c, den_x, den_t, den_ar, den_bt, den_dv, den_sh, den_cv, den_mx, den_mn, den_sel, bden_c, bden_x, bden_t, bden_cmp, bden_not, bden_and, bden_eqb, cmpI, arI, dvI, shI]; decide)
      | (exact ex_of _ (fun ρ => rfl) (by assumption))
      | (simp only [SV.den, SV.dens, den_c, den_x, den_t, den_ar, den_bt, den_dv, den_sh, den_cv, den_mx, den_mn, den_sel, bden_c, bden_x, bden_t, bden_cmp, bden_not, bden_and, bden_eqb, cmpI, arI, dvI, shI, decide_eq_true_eq, decide_eq_false_iff_not, beq_iff_eq, beq_eq_false_iff_ne, bne_iff_ne, bne_eq_false_iff_eq, ne_eq, Bool.and_eq_true, Bool.or_eq_true, Bool.and_eq_false_iff, Bool.or_eq_false_iff, Bool.not_eq_true, Int.ofNat_eq_natCast] at *; with_reducible first
          | exact ob_pfx (by assumption) (by assumption) (by assumption) (by decide)
          | exact span_ex1 (span_fam (by assumption) (by assumption))
          | exact span_ex (by assumption) (by assumption) (by omega))
  · exact h.elim
end Go.Proofs.Ytiinlanpinanhaa
