/- Packets that are drawn. -/
import Derived.Test.YtiinlanpinanhaaSdB
set_option linter.unusedVariables false
set_option linter.unusedSimpArgs false
namespace Go.Proofs.Ytiinlanpinanhaa
open Go.RowKit
set_option maxHeartbeats 8000000
set_option maxRecDepth 100000
structure Pkt where
  src : Adr
  dst : Adr
  pr : Int
  sp : Int
  dp : Int
structure PktG (p : Pkt) : Prop where
  src : AdrF 4 p.src ∨ AdrF 6 p.src
  dst : AdrF 4 p.dst ∨ AdrF 6 p.dst
  pr : 0 ≤ p.pr ∧ p.pr ≤ 255
  sp : -1 ≤ p.sp ∧ p.sp ≤ 65535
  dp : -1 ≤ p.dp ∧ p.dp ≤ 65535
def sPkt (p : Pkt) : SV := .agg [.int .i64 (.x p.src.fam), .int .u64 (.x p.src.hi), .int .u64 (.x p.src.lo), .int .i64 (.x p.dst.fam), .int .u64 (.x p.dst.hi), .int .u64 (.x p.dst.lo), .int .i64 (.x p.pr), .int .i64 (.x p.sp), .int .i64 (.x p.dp)]
def PortG (x : Int) : Prop := 0 ≤ x ∧ x ≤ 65535
def sInt (x : Int) : SV := .int .i64 (.x x)
def portDF : DF := fun rest K =>
  match rest with
  | [] => AllT PortG fun x => K (sInt x)
  | _ => False
theorem port_fn : hasFn Try.prog 58 := ⟨_, Try.func58, by rfl, by rfl⟩
theorem port_in (x y : Int) (h0 : 0 ≤ x) (h1 : x < 5) (h2 : 0 ≤ y) (h3 : y < 6) : PortG (IntKind.i64.wrap (selI [0, 80, 443, 65530, 1] x + y)) := by
  have hx : 0 ≤ selI [0, 80, 443, 65530, 1] x ∧ selI [0, 80, 443, 65530, 1] x ≤ 65530 := by
    rcases (show x = 0 ∨ x = 1 ∨ x = 2 ∨ x = 3 ∨ x = 4 from by omega) with rfl | rfl | rfl | rfl | rfl <;> decide
  generalize selI [0, 80, 443, 65530, 1] x = z at *
  unfold PortG
  rw [IntKind.wrap_i64]
  omega
theorem port_draw : DrawOk Try.prog 94 58 portDF := by
  intro rest K h ρ p a n cap l w hc
  unfold portDF at h
  split at h
  · refine draw_all Try.func58 (by kernel_rfl) hc (spNext_cx w p) [] (fun ρ ρ' => rfl) h (fun x ρ ρ' => rfl) ?_ ρ
    intro F hF
    cbv
    (repeat' (first | (((with_reducible refine And.intro (fun h => ?_) (fun h => ?_))) <;> (first | with_reducible exact (tf h (by assumption)).elim | with_reducible exact (tf (by assumption) h).elim | cbv)) | ((with_reducible refine Ob.mk (fun _ => ?_) ?_); rotate_left 1) | ((with_reducible refine AllIn.mk (fun x hx0 hx1 => ?_)); cbv) | ((with_reducible refine AllT.mk (fun x hx => ?_)); cbv) | ((with_reducible refine DrK.mk ?_ ?_ ?_); (first | exact ⟨_, List.mem_cons_self, _, _, _, _, (by assumption)⟩ | exact ⟨_, List.mem_cons_of_mem _ List.mem_cons_self, _, _, _, _, (by assumption)⟩); first | rfl | assumption | skip) | ((with_reducible refine NewK.mk ?_ ?_ (fun p F a n cap l hp hF => ?_)); (first | exact ⟨_, List.mem_cons_self, _, (by assumption)⟩ | exact ⟨_, List.mem_cons_of_mem _ List.mem_cons_self, _, (by assumption)⟩); rotate_left 1; cbv) | (with_reducible refine And.intro ?_ ?_)))
    all_goals first
      | trivial
      | (simp only [SV.den, SV.dens, den_c, den_x, den_t, den_ar, den_bt, den_dv, den_sh, den_cv, den_mx, den_mn, den_sel, bden_c, bden_x, bden_t, bden_cmp, bden_not, bden_and, bden_eqb, cmpI, arI, dvI, shI, decide_eq_true_eq, decide_eq_false_iff_not, beq_iff_eq, beq_eq_false_iff_ne, bne_iff_ne, bne_eq_false_iff_eq, ne_eq, Bool.and_eq_true, Bool.or_eq_true, Bool.and_eq_false_iff, Bool.or_eq_false_iff, Bool.not_eq_true, Int.ofNat_eq_natCast] at *; omega)
      | (refine ex_of (IntKind.i64.wrap (selI [0, 80, 443, 65530, 1] _ + _)) (fun ρ => by simp only [sInt, SV.den, SV.dens, den_c, den_x, den_t, den_ar, den_bt, den_dv, den_sh, den_cv, den_mx, den_mn, den_sel, bden_c, bden_x, bden_t, bden_cmp, bden_not, bden_and, bden_eqb, cmpI, arI, dvI, shI]; rfl) ?_; simp only [SV.den, SV.dens, den_c, den_x, den_t, den_ar, den_bt, den_dv, den_sh, den_cv, den_mx, den_mn, den_sel, bden_c, bden_x, bden_t, bden_cmp, bden_not, bden_and, bden_eqb, cmpI, arI, dvI, shI] at *; exact port_in _ _ (by assumption) (by assumption) (by assumption) (by assumption))
  · exact h.elim
def spPkt (p : Nat) : SpecT := nd0 33 (lf0 24 (dSpec 94 (fun q => q = p) nextF)) (nd0 58 (lf0 33 (dSpec 94 (fun q => q = p) adrDF)) (lf0 58 (dSpec 94 (fun q => q = p) portDF)))
theorem spPkt_ok (w : World) (p : Nat) : SpecT.ok Try.prog (Keep w.heap.size p w) w.heap.size (spPkt p) := by
  have hkeep := keepB w p
  have hk2 := keepK w p
  exact (nd0_ok (lf0_ok (dSpec_ok next_fn next_draw hk2)) (nd0_ok (lf0_ok (dSpec_ok adr_fn adr_draw hk2)) (lf0_ok (dSpec_ok port_fn port_draw hk2))))
theorem spPkt_cx (w : World) (p : Nat) : Cx.ok ⟨tt, qt, spPkt p, noO⟩ Try.prog (Keep w.heap.size p w) w.heap.size := ⟨tt_ok, qt_ok, spPkt_ok w p, noO_ok _ _ _, keepB w p, mixed_ok⟩
def pktDF : DF := fun rest K =>
  match rest with
  | [] => AllT PktG fun x => K (sPkt x)
  | _ => False
theorem pkt_fn : hasFn Try.prog 20 := ⟨_, Try.func20, by rfl, by rfl⟩
theorem pktp_in (x : Int) (h0 : 0 ≤ x) (h1 : x < 8) : 0 ≤ selI [6, 17, 1, 58, 0, 255, 8, 3] x ∧ selI [6, 17, 1, 58, 0, 255, 8, 3] x ≤ 255 := by
  rcases (show x = 0 ∨ x = 1 ∨ x = 2 ∨ x = 3 ∨ x = 4 ∨ x = 5 ∨ x = 6 ∨ x = 7 from by omega) with rfl | rfl | rfl | rfl | rfl | rfl | rfl | rfl <;> decide
theorem pkt_ex {f i sp dp : Int} {a b : Adr} (ha : AdrF f a) (hb : AdrF f b) (hf : f = 4 ∨ f = 6) (h0 : 0 ≤ i) (h1 : i < 8) (hs : PortG sp ∨ sp = -1) (hd : PortG dp ∨ dp = -1) :
    ∃ x, PktG x ∧ ∀ ρ, Value.agg #[.int .i64 a.1, .int .u64 a.2, .int .u64 a.3, .int .i64 b.1, .int .u64 b.2, .int .u64 b.3, .int .i64 (selI [6, 17, 1, 58, 0, 255, 8, 3] i), .int .i64 sp, .int .i64 dp] = SV.den ρ (sPkt x) := by
  refine ⟨⟨a, b, selI [6, 17, 1, 58, 0, 255, 8, 3] i, sp, dp⟩, ⟨?_, ?_, pktp_in i h0 h1, ?_, ?_⟩, fun _ => by simp only [sPkt, SV.den, SV.dens, den_c, den_x, den_t, den_ar, den_bt, den_dv, den_sh, den_cv, den_mx, den_mn, den_sel, bden_c, bden_x, bden_t, bden_cmp, bden_not, bden_and, bden_eqb, cmpI, arI, dvI, shI]⟩
  · rcases hf with rfl | rfl
    · exact .inl ha
    · exact .inr ha
  · rcases hf with rfl | rfl
    · exact .inl hb
    · exact .inr hb
  · unfold PortG at hs
    simp only
    omega
  · unfold PortG at hd
    simp only
    omega
theorem pkt_draw : DrawOk Try.prog 94 20 pktDF := by
  intro rest K h ρ p a n cap l w hc
  unfold pktDF at h
  split at h
  · refine draw_all Try.func20 (by kernel_rfl) hc (spPkt_cx w p) [] (fun ρ ρ' => rfl) h (fun x ρ ρ' => rfl) ?_ ρ
    intro F hF
    cbv
    (repeat' (first | (((with_reducible refine And.intro (fun h => ?_) (fun h => ?_))) <;> (first | with_reducible exact (tf h (by assumption)).elim | with_reducible exact (tf (by assumption) h).elim | cbv)) | ((with_reducible refine Ob.mk (fun _ => ?_) ?_); rotate_left 1) | ((with_reducible refine AllIn.mk (fun x hx0 hx1 => ?_)); cbv) | ((with_reducible refine AllT.mk (fun x hx => ?_)); cbv) | ((with_reducible refine DrK.mk ?_ ?_ ?_); (first | exact ⟨_, List.mem_cons_self, _, _, _, _, (by assumption)⟩ | exact ⟨_, List.mem_cons_of_mem _ List.mem_cons_self, _, _, _, _, (by assumption)⟩); first | rfl | assumption | skip) | ((with_reducible refine NewK.mk ?_ ?_ (fun p F a n cap l hp hF => ?_)); (first | exact ⟨_, List.mem_cons_self, _, (by assumption)⟩ | exact ⟨_, List.mem_cons_of_mem _ List.mem_cons_self, _, (by assumption)⟩); rotate_left 1; cbv) | (with_reducible refine And.intro ?_ ?_)))
    all_goals first
      | trivial
      | (simp only [SV.den, SV.dens, den_c, den_x, den_t, den_ar, den_bt, den_dv, den_sh, den_cv, den_mx, den_mn, den_sel, bden_c, bden_x, bden_t, bden_cmp, bden_not, bden_and, bden_eqb, cmpI, arI, dvI, shI, decide_eq_true_eq, decide_eq_false_iff_not, beq_iff_eq, beq_eq_false_iff_ne, bne_iff_ne, bne_eq_false_iff_eq, ne_eq, Bool.and_eq_true, Bool.or_eq_true, Bool.and_eq_false_iff, Bool.or_eq_false_iff, Bool.not_eq_true, Int.ofNat_eq_natCast] at *; omega)
      | (simp only [SV.den, SV.dens, den_c, den_x, den_t, den_ar, den_bt, den_dv, den_sh, den_cv, den_mx, den_mn, den_sel, bden_c, bden_x, bden_t, bden_cmp, bden_not, bden_and, bden_eqb, cmpI, arI, dvI, shI, decide_eq_true_eq, decide_eq_false_iff_not, beq_iff_eq, beq_eq_false_iff_ne, bne_iff_ne, bne_eq_false_iff_eq, ne_eq, Bool.and_eq_true, Bool.or_eq_true, Bool.and_eq_false_iff, Bool.or_eq_false_iff, Bool.not_eq_true, Int.ofNat_eq_natCast] at *; exact pkt_ex (by assumption) (by assumption) (by decide) (by assumption) (by assumption) (by first | exact .inr rfl | exact .inl (by assumption)) (by first | exact .inr rfl | exact .inl (by assumption)))
  · exact h.elim
end Go.Proofs.Ytiinlanpinanhaa
