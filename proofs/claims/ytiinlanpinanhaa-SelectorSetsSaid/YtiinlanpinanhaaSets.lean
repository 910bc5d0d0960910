/- Chapter 5: SelectorSets. -/
import Derived.Test.YtiinlanpinanhaaSelH
import Derived.Test.YtiinlanpinanhaaSdP
import Derived.Test.YtiinlanpinanhaaSl
set_option linter.unusedVariables false
set_option linter.unusedSimpArgs false
namespace Go.Proofs.Ytiinlanpinanhaa
open Go.RowKit
set_option maxHeartbeats 8000000
set_option maxRecDepth 100000
def modI (x n : Int) : Int := if x.tmod n < 0 then IntKind.i64.wrap (x.tmod n + n) else x.tmod n
theorem mk_Mod (x n : Int) (hn : n ≠ 0) (w : World) : Calls Try.prog 21 #[.int .i64 x, .int .i64 n] w fun e w' => e = .returned (.int .i64 (modI x n)) ∧ Below w.heap.size w w' := by
  refine pure_fn (noS_cx w) Try.func21 (by kernel_rfl) [.int .i64 (.x x), .int .i64 (.x n)] (by intro ρ; simp only [SV.den, SV.dens, den_c, den_x, den_t, den_ar, den_bt, den_dv, den_sh, den_cv, den_mx, den_mn, den_sel, bden_c, bden_x, bden_t, bden_cmp, bden_not, bden_and, bden_eqb, cmpI, arI, dvI, shI]) ?_
  cbv
  (repeat' (first | (((with_reducible refine And.intro (fun h => ?_) (fun h => ?_))) <;> (first | with_reducible exact (tf h (by assumption)).elim | with_reducible exact (tf (by assumption) h).elim | cbv)) | ((with_reducible refine Ob.mk (fun _ => ?_) ?_); rotate_left 1) | ((with_reducible refine AllIn.mk (fun x hx0 hx1 => ?_)); cbv) | ((with_reducible refine AllT.mk (fun x hx => ?_)); cbv) | ((with_reducible refine DrK.mk ?_ ?_ ?_); (first | exact ⟨_, List.mem_cons_self, _, _, _, _, (by assumption)⟩ | exact ⟨_, List.mem_cons_of_mem _ List.mem_cons_self, _, _, _, _, (by assumption)⟩); first | rfl | assumption | skip) | ((with_reducible refine NewK.mk ?_ ?_ (fun p F a n cap l hp hF => ?_)); (first | exact ⟨_, List.mem_cons_self, _, (by assumption)⟩ | exact ⟨_, List.mem_cons_of_mem _ List.mem_cons_self, _, (by assumption)⟩); rotate_left 1; cbv) | (with_reducible refine And.intro ?_ ?_)))
  all_goals
    simp only [SV.den, SV.dens, den_c, den_x, den_t, den_ar, den_bt, den_dv, den_sh, den_cv, den_mx, den_mn, den_sel, bden_c, bden_x, bden_t, bden_cmp, bden_not, bden_and, bden_eqb, cmpI, arI, dvI, shI, decide_eq_true_eq, decide_eq_false_iff_not, beq_iff_eq, beq_eq_false_iff_ne, bne_iff_ne, bne_eq_false_iff_eq, ne_eq, Bool.and_eq_true, Bool.or_eq_true, Bool.and_eq_false_iff, Bool.or_eq_false_iff, Bool.not_eq_true, Int.ofNat_eq_natCast] at *
    first
      | assumption
      | (intro ρ; simp [modI, *])
def modF : List SV → Option SV
  | [.int .i64 x, .int .i64 (.c 65537)] => some (.int .i64 (.t fun _ => modI x.den 65537))
  | _ => none
theorem mod_fn : hasFn Try.prog 21 := ⟨_, Try.func21, by rfl, by rfl⟩
theorem mod_sp {keep : World → Prop} {B : Nat} (hkeep : ∀ w w', keep w → Below B w w' → keep w') : SpecOk Try.prog keep B 21 (pSpec modF) :=
  pSpec_ok mod_fn (fun args v h => by
    unfold modF at h
    split at h
    · cases h
      refine ⟨fun _ _ _ => rfl, fun ρ w => ?_⟩
      simp only [SV.den, SV.dens, den_c, den_x, den_t, den_ar, den_bt, den_dv, den_sh, den_cv, den_mx, den_mn, den_sel, bden_c, bden_x, bden_t, bden_cmp, bden_not, bden_and, bden_eqb, cmpI, arI, dvI, shI]
      exact mk_Mod _ _ (by decide) w
    · cases h) hkeep
def spSets (B0 : Nat) : SpecT := nd0 18 (nd0 16 (nd0 15 (lf0 14 (pSpec awF)) (lf0 15 (newSpec 94 (fun q => B0 ≤ q)))) (nd0 17 (lf0 16 (dSpec 94 (fun q => B0 ≤ q) selrDF)) (lf0 17 (nSpec meetDF)))) (nd0 20 (nd0 19 (lf0 18 (pSpec insF)) (lf0 19 (pSpec chkF))) (nd0 21 (lf0 20 (dSpec 94 (fun q => B0 ≤ q) pktDF)) (nd0 22 (lf0 21 (pSpec modF)) (lf0 22 (pSpec hasF)))))
theorem spSets_ok (w : World) : SpecT.ok Try.prog (Below w.heap.size w) w.heap.size (spSets w.heap.size) := by
  have hkeep := keep_below w w.heap.size
  have hk2 := keepL w
  exact (nd0_ok (nd0_ok (nd0_ok (lf0_ok (aw05_sp hkeep)) (lf0_ok (new_sp (fun _ h => h) hkeep))) (nd0_ok (lf0_ok (dSpec_ok selr_fn selr_draw hk2)) (lf0_ok (meet_sp hkeep)))) (nd0_ok (nd0_ok (lf0_ok (ins_sp hkeep)) (lf0_ok (chk_sp hkeep))) (nd0_ok (lf0_ok (dSpec_ok pkt_fn pkt_draw hk2)) (nd0_ok (lf0_ok (mod_sp hkeep)) (lf0_ok (has_sp hkeep))))))
theorem spSets_cx (w : World) (B0 : Nat) (hB : B0 = w.heap.size) : Cx.ok ⟨tt, qt, spSets B0, noO⟩ Try.prog (Below w.heap.size w) w.heap.size := ⟨tt_ok, qt_ok, hB ▸ spSets_ok w, noO_ok _ _ _, keep_below w _, mixed_ok⟩
theorem ins_self {a : Sel} (h : a.good) : insB a a = true := by
  rw [insB, meet_self h.toOk]
  simp [(selEq_iff a a).2 rfl]
theorem ins_meet {a b : Sel} {x : Sel × Bool} (ha : a.good) (hb : b.good) (hx : meet a b = x) (h : x.2 = true) : chkSel x.1 = 0 ∧ insB x.1 a = true ∧ insB x.1 b = true ∧ x.1.good := by
  obtain ⟨c, ok⟩ := x
  simp only at h
  subst h
  have hg := (meet_good ha hb hx).1
  refine ⟨chk_good hg, ?_, ?_, hg⟩
  · rw [insB, meet_in_left ha hb hx]; simp [(selEq_iff c c).2 rfl]
  · rw [insB, meet_in_right ha hb hx]; simp [(selEq_iff c c).2 rfl]
theorem has_meetB {a b : Sel} {x : Sel × Bool} (ha : a.good) (hb : b.good) (hx : meet a b = x) (u : Adr) (hu : u.ok) (pr port : Int) : (has a u pr port && has b u pr port) = (x.2 && has x.1 u pr port) := by
  have := has_meet ha hb hu pr port
  rw [hx] at this
  exact this
theorem has_insB {a b : Sel} (ha : a.good) (hb : b.good) (h : insB a b = true) (u : Adr) (hu : u.ok) (pr port : Int) (hp : has a u pr port = true) : has b u pr port = true := by
  simp only [insB, Bool.and_eq_true, selEq_iff] at h
  exact has_inside ha hb (Prod.ext h.2 h.1) hu pr port hp
theorem five_ok {a b c d e : Adr} (ha : a.ok) (hb : b.ok) (hc : c.ok) (hd : d.ok) (he : e.ok) (z : Int) (h0 : 0 ≤ z) (h1 : z < 5) :
    Adr.ok ⟨selI [a.fam, b.fam, c.fam, d.fam, e.fam] z, selI [a.hi, b.hi, c.hi, d.hi, e.hi] z, selI [a.lo, b.lo, c.lo, d.lo, e.lo] z⟩ := by
  rcases (show z = 0 ∨ z = 1 ∨ z = 2 ∨ z = 3 ∨ z = 4 from by omega) with rfl | rfl | rfl | rfl | rfl
  · exact ha
  · exact hb
  · exact hc
  · exact hd
  · exact he
theorem pkt_src {x : Pkt} (h : PktG x) : x.src.ok := by rcases h.src with h | h <;> exact h.ok
theorem law_SelectorSets (a : Option Addr) (len cap : Nat) (l : List UInt8) (port : Int) (w : World) (h : Bs w a len cap l) (_ : -9223372036854775808 ≤ port) (_ : port ≤ 9223372036854775807) :
    Calls Try.prog 4 #[.slice a len cap, .int .i64 port] w fun e w' => e = .returned (.bool true) ∧ Below w.heap.size w w' := by
  obtain ⟨B, hB⟩ : ∃ B, B = w.heap.size := ⟨_, rfl⟩
  refine law_of_vc (spSets_cx w B hB) Try.func4 (by kernel_rfl) h [.val (.slice a len cap), .int .i64 (.x port)] (by intro ρ; simp only [SV.den, SV.dens, den_c, den_x, den_t, den_ar, den_bt, den_dv, den_sh, den_cv, den_mx, den_mn, den_sel, bden_c, bden_x, bden_t, bden_cmp, bden_not, bden_and, bden_eqb, cmpI, arI, dvI, shI]) ?_
  intro F hF
  clear hB
  cbv
  with_reducible refine NewK.mk ?_ ?_ (fun p F1 a1 n1 cap1 l1 hp hF1 => ?_)
  · (first | exact ⟨_, List.mem_cons_self, _, (by assumption)⟩ | exact ⟨_, List.mem_cons_of_mem _ List.mem_cons_self, _, (by assumption)⟩ | exact ⟨_, List.mem_cons_of_mem _ (List.mem_cons_of_mem _ List.mem_cons_self), _, (by assumption)⟩)
  · simp only [SV.den, SV.dens, den_c, den_x, den_t, den_ar, den_bt, den_dv, den_sh, den_cv, den_mx, den_mn, den_sel, bden_c, bden_x, bden_t, bden_cmp, bden_not, bden_and, bden_eqb, cmpI, arI, dvI, shI]; decide
  cbv
  with_reducible refine DrK.mk ?_ ?_ ?_
  · (first | exact ⟨_, List.mem_cons_self, _, _, _, _, (by assumption)⟩ | exact ⟨_, List.mem_cons_of_mem _ List.mem_cons_self, _, _, _, _, (by assumption)⟩ | exact ⟨_, List.mem_cons_of_mem _ (List.mem_cons_of_mem _ List.mem_cons_self), _, _, _, _, (by assumption)⟩)
  · first | rfl | assumption
  with_reducible refine AllT.mk (fun sa ga => ?_)
  cbv
  with_reducible refine DrK.mk ?_ ?_ ?_
  · (first | exact ⟨_, List.mem_cons_self, _, _, _, _, (by assumption)⟩ | exact ⟨_, List.mem_cons_of_mem _ List.mem_cons_self, _, _, _, _, (by assumption)⟩ | exact ⟨_, List.mem_cons_of_mem _ (List.mem_cons_of_mem _ List.mem_cons_self), _, _, _, _, (by assumption)⟩)
  · first | rfl | assumption
  with_reducible refine AllT.mk (fun sb gb => ?_)
  cbv
  with_reducible refine AllT.mk (fun x hx => ?_)
  cbv
  replace hx : meet sa sb = x := hx.eq
  have haa := ins_self ga.1
  have hmm := ins_meet ga.1 gb.1 hx
  have hmeet := has_meetB ga.1 gb.1 hx
  have hins := fun h => has_insB ga.1 gb.1 h
  cbv
  (repeat' (first | (((with_reducible refine And.intro (fun h => ?_) (fun h => ?_))) <;> (first | with_reducible exact (tf h (by assumption)).elim | with_reducible exact (tf (by assumption) h).elim | cbv)) | ((with_reducible refine Ob.mk (fun _ => ?_) ?_); rotate_left 1) | ((with_reducible refine AllIn.mk (fun x hx0 hx1 => ?_)); cbv) | ((with_reducible refine AllT.mk (fun x hx => ?_)); cbv) | ((with_reducible refine DrK.mk ?_ ?_ ?_); (first | exact ⟨_, List.mem_cons_self, _, _, _, _, (by assumption)⟩ | exact ⟨_, List.mem_cons_of_mem _ List.mem_cons_self, _, _, _, _, (by assumption)⟩); first | rfl | assumption | skip) | ((with_reducible refine NewK.mk ?_ ?_ (fun p F a n cap l hp hF => ?_)); (first | exact ⟨_, List.mem_cons_self, _, (by assumption)⟩ | exact ⟨_, List.mem_cons_of_mem _ List.mem_cons_self, _, (by assumption)⟩); rotate_left 1; cbv) | (with_reducible refine And.intro ?_ ?_)))
  all_goals first
    | (simp only [SV.den, SV.dens, den_c, den_x, den_t, den_ar, den_bt, den_dv, den_sh, den_cv, den_mx, den_mn, den_sel, bden_c, bden_x, bden_t, bden_cmp, bden_not, bden_and, bden_eqb, cmpI, arI, dvI, shI, decide_eq_true_eq, decide_eq_false_iff_not, beq_iff_eq, beq_eq_false_iff_ne, bne_iff_ne, bne_eq_false_iff_eq, ne_eq, Bool.and_eq_true, Bool.or_eq_true, Bool.and_eq_false_iff, Bool.or_eq_false_iff, Bool.not_eq_true, Int.ofNat_eq_natCast] at *; omega)
    | (intro ρ; clear hF hF1; simp only [SV.den, SV.dens, den_c, den_x, den_t, den_ar, den_bt, den_dv, den_sh, den_cv, den_mx, den_mn, den_sel, bden_c, bden_x, bden_t, bden_cmp, bden_not, bden_and, bden_eqb, cmpI, arI, dvI, shI, decide_eq_true_eq, decide_eq_false_iff_not, beq_iff_eq, beq_eq_false_iff_ne, bne_iff_ne, bne_eq_false_iff_eq, ne_eq, Bool.and_eq_true, Bool.or_eq_true, Bool.and_eq_false_iff, Bool.or_eq_false_iff, Bool.not_eq_true, Int.ofNat_eq_natCast, sel_eta] at *; simp_all; done)
    | skip
  all_goals
    with_reducible refine loop_hv (rangeN 20 40) [] (fun z _ => 0 ≤ z 10 ∧ z 10 ≤ 8) (fun z _ => (8 - z 10).toNat) (by cbv) ?_ ?_ (fun z1 b1 u1 R1 hz1 hR1 => ?_)
    · refine EndOk.mk (by cbv) (by cbv; repeat' (first | exact True.intro | exact rfl | with_reducible refine And.intro ?_ ?_)) (by cbv; repeat' (first | exact True.intro | exact rfl | with_reducible refine And.intro ?_ ?_)) (by cbv)
    · intro zq bq hzq hbq
      have q10 := hzq 10
      cbv at q10
      replace q10 := q10.eq
      simp only [atI, atB, SV.den, SV.dens, den_c, den_x, den_t, den_ar, den_bt, den_dv, den_sh, den_cv, den_mx, den_mn, den_sel, bden_c, bden_x, bden_t, bden_cmp, bden_not, bden_and, bden_eqb, cmpI, arI, dvI, shI, decide_eq_true_eq, decide_eq_false_iff_not, beq_iff_eq, beq_eq_false_iff_ne, bne_iff_ne, bne_eq_false_iff_eq, ne_eq, Bool.and_eq_true, Bool.or_eq_true, Bool.and_eq_false_iff, Bool.or_eq_false_iff, Bool.not_eq_true, Int.ofNat_eq_natCast, IntKind.wrap_i64] at q10
      try simp only []
      omega
    cbv
    cbv
    (repeat' (first | (((with_reducible refine And.intro (fun h => ?_) (fun h => ?_))) <;> (first | with_reducible exact (tf h (by assumption)).elim | with_reducible exact (tf (by assumption) h).elim | cbv)) | ((with_reducible refine Ob.mk (fun _ => ?_) ?_); rotate_left 1) | ((with_reducible refine AllIn.mk (fun x hx0 hx1 => ?_)); cbv) | ((with_reducible refine AllT.mk (fun x hx => ?_)); cbv) | ((with_reducible refine DrK.mk ?_ ?_ ?_); (first | exact ⟨_, List.mem_cons_self, _, _, _, _, (by assumption)⟩ | exact ⟨_, List.mem_cons_of_mem _ List.mem_cons_self, _, _, _, _, (by assumption)⟩); first | rfl | assumption | skip) | ((with_reducible refine NewK.mk ?_ ?_ (fun p F a n cap l hp hF => ?_)); (first | exact ⟨_, List.mem_cons_self, _, (by assumption)⟩ | exact ⟨_, List.mem_cons_of_mem _ List.mem_cons_self, _, (by assumption)⟩); rotate_left 1; cbv) | (with_reducible refine And.intro ?_ ?_)))
    all_goals first
      | (simp only [SV.den, SV.dens, den_c, den_x, den_t, den_ar, den_bt, den_dv, den_sh, den_cv, den_mx, den_mn, den_sel, bden_c, bden_x, bden_t, bden_cmp, bden_not, bden_and, bden_eqb, cmpI, arI, dvI, shI, decide_eq_true_eq, decide_eq_false_iff_not, beq_iff_eq, beq_eq_false_iff_ne, bne_iff_ne, bne_eq_false_iff_eq, ne_eq, Bool.and_eq_true, Bool.or_eq_true, Bool.and_eq_false_iff, Bool.or_eq_false_iff, Bool.not_eq_true, Int.ofNat_eq_natCast] at *; omega)
      | (intro ρ; simp only [SV.den, SV.dens, den_c, den_x, den_t, den_ar, den_bt, den_dv, den_sh, den_cv, den_mx, den_mn, den_sel, bden_c, bden_x, bden_t, bden_cmp, bden_not, bden_and, bden_eqb, cmpI, arI, dvI, shI]; done)
      | skip
    with_reducible refine loop_hv (rangeN 60 11) [] (fun z _ => 0 ≤ z 73 ∧ z 73 ≤ 5) (fun z _ => (5 - z 73).toNat) (by cbv) ?_ ?_ (fun z2 b2 u2 R2 hz2 hR2 => ?_)
    · refine EndOk.mk (by cbv) (by cbv; repeat' (first | exact True.intro | exact rfl | with_reducible refine And.intro ?_ ?_)) (by cbv; repeat' (first | exact True.intro | exact rfl | with_reducible refine And.intro ?_ ?_)) (by cbv)
    · intro zq bq hzq hbq
      have q73 := hzq 73
      cbv at q73
      replace q73 := q73.eq
      simp only [atI, atB, SV.den, SV.dens, den_c, den_x, den_t, den_ar, den_bt, den_dv, den_sh, den_cv, den_mx, den_mn, den_sel, bden_c, bden_x, bden_t, bden_cmp, bden_not, bden_and, bden_eqb, cmpI, arI, dvI, shI, decide_eq_true_eq, decide_eq_false_iff_not, beq_iff_eq, beq_eq_false_iff_ne, bne_iff_ne, bne_eq_false_iff_eq, ne_eq, Bool.and_eq_true, Bool.or_eq_true, Bool.and_eq_false_iff, Bool.or_eq_false_iff, Bool.not_eq_true, Int.ofNat_eq_natCast, IntKind.wrap_i64] at q73
      try simp only []
      omega
    cbv
    cbv
    (repeat' (first | (((with_reducible refine And.intro (fun h => ?_) (fun h => ?_))) <;> (first | with_reducible exact (tf h (by assumption)).elim | with_reducible exact (tf (by assumption) h).elim | cbv)) | ((with_reducible refine Ob.mk (fun _ => ?_) ?_); rotate_left 1) | ((with_reducible refine AllIn.mk (fun x hx0 hx1 => ?_)); cbv) | ((with_reducible refine AllT.mk (fun x hx => ?_)); cbv) | ((with_reducible refine DrK.mk ?_ ?_ ?_); (first | exact ⟨_, List.mem_cons_self, _, _, _, _, (by assumption)⟩ | exact ⟨_, List.mem_cons_of_mem _ List.mem_cons_self, _, _, _, _, (by assumption)⟩); first | rfl | assumption | skip) | ((with_reducible refine NewK.mk ?_ ?_ (fun p F a n cap l hp hF => ?_)); (first | exact ⟨_, List.mem_cons_self, _, (by assumption)⟩ | exact ⟨_, List.mem_cons_of_mem _ List.mem_cons_self, _, (by assumption)⟩); rotate_left 1; cbv) | (with_reducible refine And.intro ?_ ?_)))
    all_goals first
      | (simp only [SV.den, SV.dens, den_c, den_x, den_t, den_ar, den_bt, den_dv, den_sh, den_cv, den_mx, den_mn, den_sel, bden_c, bden_x, bden_t, bden_cmp, bden_not, bden_and, bden_eqb, cmpI, arI, dvI, shI, decide_eq_true_eq, decide_eq_false_iff_not, beq_iff_eq, beq_eq_false_iff_ne, bne_iff_ne, bne_eq_false_iff_eq, ne_eq, Bool.and_eq_true, Bool.or_eq_true, Bool.and_eq_false_iff, Bool.or_eq_false_iff, Bool.not_eq_true, Int.ofNat_eq_natCast] at *; omega)
      | (intro ρ; simp only [SV.den, SV.dens, den_c, den_x, den_t, den_ar, den_bt, den_dv, den_sh, den_cv, den_mx, den_mn, den_sel, bden_c, bden_x, bden_t, bden_cmp, bden_not, bden_and, bden_eqb, cmpI, arI, dvI, shI]; done)
      | skip
    rotate_left 1
    · with_reducible refine hR1 _ ?_ (fun zq bq hzq hbq => ?_)
      · refine EndOk.mk (by cbv) (by cbv; repeat' (first | exact True.intro | exact rfl | with_reducible refine And.intro ?_ ?_)) (by cbv; repeat' (first | exact True.intro | exact rfl | with_reducible refine And.intro ?_ ?_)) (by cbv)
      have q10 := hzq 10
      cbv at q10
      replace q10 := q10.eq
      simp only [atI, atB, SV.den, SV.dens, den_c, den_x, den_t, den_ar, den_bt, den_dv, den_sh, den_cv, den_mx, den_mn, den_sel, bden_c, bden_x, bden_t, bden_cmp, bden_not, bden_and, bden_eqb, cmpI, arI, dvI, shI, decide_eq_true_eq, decide_eq_false_iff_not, beq_iff_eq, beq_eq_false_iff_ne, bne_iff_ne, bne_eq_false_iff_eq, ne_eq, Bool.and_eq_true, Bool.or_eq_true, Bool.and_eq_false_iff, Bool.or_eq_false_iff, Bool.not_eq_true, Int.ofNat_eq_natCast, IntKind.wrap_i64] at q10
      clear hR1
      simp only [SV.den, SV.dens, den_c, den_x, den_t, den_ar, den_bt, den_dv, den_sh, den_cv, den_mx, den_mn, den_sel, bden_c, bden_x, bden_t, bden_cmp, bden_not, bden_and, bden_eqb, cmpI, arI, dvI, shI, decide_eq_true_eq, decide_eq_false_iff_not, beq_iff_eq, beq_eq_false_iff_ne, bne_iff_ne, bne_eq_false_iff_eq, ne_eq, Bool.and_eq_true, Bool.or_eq_true, Bool.and_eq_false_iff, Bool.or_eq_false_iff, Bool.not_eq_true, Int.ofNat_eq_natCast] at *
      omega
    with_reducible refine loop_hv (rangeN 77 10) [] (fun z _ => 0 ≤ z 89 ∧ z 89 ≤ 5) (fun z _ => (5 - z 89).toNat) (by cbv) ?_ ?_ (fun z3 b3 u3 R3 hz3 hR3 => ?_)
    · refine EndOk.mk (by cbv) (by cbv; repeat' (first | exact True.intro | exact rfl | with_reducible refine And.intro ?_ ?_)) (by cbv; repeat' (first | exact True.intro | exact rfl | with_reducible refine And.intro ?_ ?_)) (by cbv)
    · intro zq bq hzq hbq
      have q89 := hzq 89
      cbv at q89
      replace q89 := q89.eq
      simp only [atI, atB, SV.den, SV.dens, den_c, den_x, den_t, den_ar, den_bt, den_dv, den_sh, den_cv, den_mx, den_mn, den_sel, bden_c, bden_x, bden_t, bden_cmp, bden_not, bden_and, bden_eqb, cmpI, arI, dvI, shI, decide_eq_true_eq, decide_eq_false_iff_not, beq_iff_eq, beq_eq_false_iff_ne, bne_iff_ne, bne_eq_false_iff_eq, ne_eq, Bool.and_eq_true, Bool.or_eq_true, Bool.and_eq_false_iff, Bool.or_eq_false_iff, Bool.not_eq_true, Int.ofNat_eq_natCast, IntKind.wrap_i64] at q89
      try simp only []
      omega
    cbv
    cbv
    (repeat' (first | (((with_reducible refine And.intro (fun h => ?_) (fun h => ?_))) <;> (first | with_reducible exact (tf h (by assumption)).elim | with_reducible exact (tf (by assumption) h).elim | cbv)) | ((with_reducible refine Ob.mk (fun _ => ?_) ?_); rotate_left 1) | ((with_reducible refine AllIn.mk (fun x hx0 hx1 => ?_)); cbv) | ((with_reducible refine AllT.mk (fun x hx => ?_)); cbv) | ((with_reducible refine DrK.mk ?_ ?_ ?_); (first | exact ⟨_, List.mem_cons_self, _, _, _, _, (by assumption)⟩ | exact ⟨_, List.mem_cons_of_mem _ List.mem_cons_self, _, _, _, _, (by assumption)⟩); first | rfl | assumption | skip) | ((with_reducible refine NewK.mk ?_ ?_ (fun p F a n cap l hp hF => ?_)); (first | exact ⟨_, List.mem_cons_self, _, (by assumption)⟩ | exact ⟨_, List.mem_cons_of_mem _ List.mem_cons_self, _, (by assumption)⟩); rotate_left 1; cbv) | (with_reducible refine And.intro ?_ ?_)))
    all_goals first
      | (simp only [SV.den, SV.dens, den_c, den_x, den_t, den_ar, den_bt, den_dv, den_sh, den_cv, den_mx, den_mn, den_sel, bden_c, bden_x, bden_t, bden_cmp, bden_not, bden_and, bden_eqb, cmpI, arI, dvI, shI, decide_eq_true_eq, decide_eq_false_iff_not, beq_iff_eq, beq_eq_false_iff_ne, bne_iff_ne, bne_eq_false_iff_eq, ne_eq, Bool.and_eq_true, Bool.or_eq_true, Bool.and_eq_false_iff, Bool.or_eq_false_iff, Bool.not_eq_true, Int.ofNat_eq_natCast] at *; omega)
      | (intro ρ; simp only [SV.den, SV.dens, den_c, den_x, den_t, den_ar, den_bt, den_dv, den_sh, den_cv, den_mx, den_mn, den_sel, bden_c, bden_x, bden_t, bden_cmp, bden_not, bden_and, bden_eqb, cmpI, arI, dvI, shI]; done)
      | skip
  all_goals first
    | (intro ρ; exfalso
       clear hR1 hR2 hR3 hF hF1
       simp only [SV.den, SV.dens, den_c, den_x, den_t, den_ar, den_bt, den_dv, den_sh, den_cv, den_mx, den_mn, den_sel, bden_c, bden_x, bden_t, bden_cmp, bden_not, bden_and, bden_eqb, cmpI, arI, dvI, shI, decide_eq_true_eq, decide_eq_false_iff_not, beq_iff_eq, beq_eq_false_iff_ne, bne_iff_ne, bne_eq_false_iff_eq, ne_eq, Bool.and_eq_true, Bool.or_eq_true, Bool.and_eq_false_iff, Bool.or_eq_false_iff, Bool.not_eq_true, Int.ofNat_eq_natCast, denL, sel_eta] at *
       have hu := five_ok (pkt_src hx) ga.1.lo ga.1.hi gb.1.lo gb.1.hi (z3 89) (by omega) (by omega)
       have H1 := hmeet _ hu x.pr (selI [-1, x.sp, sa.pl, sb.ph, IntKind.i64.wrap (modI port 65537 - 1)] (z2 73))
       have H2 := fun h => hins h _ hu x.pr (selI [-1, x.sp, sa.pl, sb.ph, IntKind.i64.wrap (modI port 65537 - 1)] (z2 73))
       clear hmeet hins
       simp_all; done)
    | skip
  all_goals clear hmeet hins haa hmm hF hF1
  · with_reducible refine hR3 _ ?_ (fun zq bq hzq hbq => ?_)
    · refine EndOk.mk (by cbv) (by cbv; repeat' (first | exact True.intro | exact rfl | with_reducible refine And.intro ?_ ?_)) (by cbv; repeat' (first | exact True.intro | exact rfl | with_reducible refine And.intro ?_ ?_)) (by cbv)
    have q89 := hzq 89
    cbv at q89
    replace q89 := q89.eq
    simp only [atI, atB, SV.den, SV.dens, den_c, den_x, den_t, den_ar, den_bt, den_dv, den_sh, den_cv, den_mx, den_mn, den_sel, bden_c, bden_x, bden_t, bden_cmp, bden_not, bden_and, bden_eqb, cmpI, arI, dvI, shI, decide_eq_true_eq, decide_eq_false_iff_not, beq_iff_eq, beq_eq_false_iff_ne, bne_iff_ne, bne_eq_false_iff_eq, ne_eq, Bool.and_eq_true, Bool.or_eq_true, Bool.and_eq_false_iff, Bool.or_eq_false_iff, Bool.not_eq_true, Int.ofNat_eq_natCast, IntKind.wrap_i64] at q89
    clear hR3
    simp only [SV.den, SV.dens, den_c, den_x, den_t, den_ar, den_bt, den_dv, den_sh, den_cv, den_mx, den_mn, den_sel, bden_c, bden_x, bden_t, bden_cmp, bden_not, bden_and, bden_eqb, cmpI, arI, dvI, shI, decide_eq_true_eq, decide_eq_false_iff_not, beq_iff_eq, beq_eq_false_iff_ne, bne_iff_ne, bne_eq_false_iff_eq, ne_eq, Bool.and_eq_true, Bool.or_eq_true, Bool.and_eq_false_iff, Bool.or_eq_false_iff, Bool.not_eq_true, Int.ofNat_eq_natCast] at *
    omega
  · with_reducible refine hR3 _ ?_ (fun zq bq hzq hbq => ?_)
    · refine EndOk.mk (by cbv) (by cbv; repeat' (first | exact True.intro | exact rfl | with_reducible refine And.intro ?_ ?_)) (by cbv; repeat' (first | exact True.intro | exact rfl | with_reducible refine And.intro ?_ ?_)) (by cbv)
    have q89 := hzq 89
    cbv at q89
    replace q89 := q89.eq
    simp only [atI, atB, SV.den, SV.dens, den_c, den_x, den_t, den_ar, den_bt, den_dv, den_sh, den_cv, den_mx, den_mn, den_sel, bden_c, bden_x, bden_t, bden_cmp, bden_not, bden_and, bden_eqb, cmpI, arI, dvI, shI, decide_eq_true_eq, decide_eq_false_iff_not, beq_iff_eq, beq_eq_false_iff_ne, bne_iff_ne, bne_eq_false_iff_eq, ne_eq, Bool.and_eq_true, Bool.or_eq_true, Bool.and_eq_false_iff, Bool.or_eq_false_iff, Bool.not_eq_true, Int.ofNat_eq_natCast, IntKind.wrap_i64] at q89
    clear hR3
    simp only [SV.den, SV.dens, den_c, den_x, den_t, den_ar, den_bt, den_dv, den_sh, den_cv, den_mx, den_mn, den_sel, bden_c, bden_x, bden_t, bden_cmp, bden_not, bden_and, bden_eqb, cmpI, arI, dvI, shI, decide_eq_true_eq, decide_eq_false_iff_not, beq_iff_eq, beq_eq_false_iff_ne, bne_iff_ne, bne_eq_false_iff_eq, ne_eq, Bool.and_eq_true, Bool.or_eq_true, Bool.and_eq_false_iff, Bool.or_eq_false_iff, Bool.not_eq_true, Int.ofNat_eq_natCast] at *
    omega
  · with_reducible refine hR3 _ ?_ (fun zq bq hzq hbq => ?_)
    · refine EndOk.mk (by cbv) (by cbv; repeat' (first | exact True.intro | exact rfl | with_reducible refine And.intro ?_ ?_)) (by cbv; repeat' (first | exact True.intro | exact rfl | with_reducible refine And.intro ?_ ?_)) (by cbv)
    have q89 := hzq 89
    cbv at q89
    replace q89 := q89.eq
    simp only [atI, atB, SV.den, SV.dens, den_c, den_x, den_t, den_ar, den_bt, den_dv, den_sh, den_cv, den_mx, den_mn, den_sel, bden_c, bden_x, bden_t, bden_cmp, bden_not, bden_and, bden_eqb, cmpI, arI, dvI, shI, decide_eq_true_eq, decide_eq_false_iff_not, beq_iff_eq, beq_eq_false_iff_ne, bne_iff_ne, bne_eq_false_iff_eq, ne_eq, Bool.and_eq_true, Bool.or_eq_true, Bool.and_eq_false_iff, Bool.or_eq_false_iff, Bool.not_eq_true, Int.ofNat_eq_natCast, IntKind.wrap_i64] at q89
    clear hR3
    simp only [SV.den, SV.dens, den_c, den_x, den_t, den_ar, den_bt, den_dv, den_sh, den_cv, den_mx, den_mn, den_sel, bden_c, bden_x, bden_t, bden_cmp, bden_not, bden_and, bden_eqb, cmpI, arI, dvI, shI, decide_eq_true_eq, decide_eq_false_iff_not, beq_iff_eq, beq_eq_false_iff_ne, bne_iff_ne, bne_eq_false_iff_eq, ne_eq, Bool.and_eq_true, Bool.or_eq_true, Bool.and_eq_false_iff, Bool.or_eq_false_iff, Bool.not_eq_true, Int.ofNat_eq_natCast] at *
    omega
  · with_reducible refine hR3 _ ?_ (fun zq bq hzq hbq => ?_)
    · refine EndOk.mk (by cbv) (by cbv; repeat' (first | exact True.intro | exact rfl | with_reducible refine And.intro ?_ ?_)) (by cbv; repeat' (first | exact True.intro | exact rfl | with_reducible refine And.intro ?_ ?_)) (by cbv)
    have q89 := hzq 89
    cbv at q89
    replace q89 := q89.eq
    simp only [atI, atB, SV.den, SV.dens, den_c, den_x, den_t, den_ar, den_bt, den_dv, den_sh, den_cv, den_mx, den_mn, den_sel, bden_c, bden_x, bden_t, bden_cmp, bden_not, bden_and, bden_eqb, cmpI, arI, dvI, shI, decide_eq_true_eq, decide_eq_false_iff_not, beq_iff_eq, beq_eq_false_iff_ne, bne_iff_ne, bne_eq_false_iff_eq, ne_eq, Bool.and_eq_true, Bool.or_eq_true, Bool.and_eq_false_iff, Bool.or_eq_false_iff, Bool.not_eq_true, Int.ofNat_eq_natCast, IntKind.wrap_i64] at q89
    clear hR3
    simp only [SV.den, SV.dens, den_c, den_x, den_t, den_ar, den_bt, den_dv, den_sh, den_cv, den_mx, den_mn, den_sel, bden_c, bden_x, bden_t, bden_cmp, bden_not, bden_and, bden_eqb, cmpI, arI, dvI, shI, decide_eq_true_eq, decide_eq_false_iff_not, beq_iff_eq, beq_eq_false_iff_ne, bne_iff_ne, bne_eq_false_iff_eq, ne_eq, Bool.and_eq_true, Bool.or_eq_true, Bool.and_eq_false_iff, Bool.or_eq_false_iff, Bool.not_eq_true, Int.ofNat_eq_natCast] at *
    omega
  · with_reducible refine hR2 _ ?_ (fun zq bq hzq hbq => ?_)
    · refine EndOk.mk (by cbv) (by cbv; repeat' (first | exact True.intro | exact rfl | with_reducible refine And.intro ?_ ?_)) (by cbv; repeat' (first | exact True.intro | exact rfl | with_reducible refine And.intro ?_ ?_)) (by cbv)
    have q73 := hzq 73
    cbv at q73
    replace q73 := q73.eq
    simp only [atI, atB, SV.den, SV.dens, den_c, den_x, den_t, den_ar, den_bt, den_dv, den_sh, den_cv, den_mx, den_mn, den_sel, bden_c, bden_x, bden_t, bden_cmp, bden_not, bden_and, bden_eqb, cmpI, arI, dvI, shI, decide_eq_true_eq, decide_eq_false_iff_not, beq_iff_eq, beq_eq_false_iff_ne, bne_iff_ne, bne_eq_false_iff_eq, ne_eq, Bool.and_eq_true, Bool.or_eq_true, Bool.and_eq_false_iff, Bool.or_eq_false_iff, Bool.not_eq_true, Int.ofNat_eq_natCast, IntKind.wrap_i64] at q73
    clear hR2
    simp only [SV.den, SV.dens, den_c, den_x, den_t, den_ar, den_bt, den_dv, den_sh, den_cv, den_mx, den_mn, den_sel, bden_c, bden_x, bden_t, bden_cmp, bden_not, bden_and, bden_eqb, cmpI, arI, dvI, shI, decide_eq_true_eq, decide_eq_false_iff_not, beq_iff_eq, beq_eq_false_iff_ne, bne_iff_ne, bne_eq_false_iff_eq, ne_eq, Bool.and_eq_true, Bool.or_eq_true, Bool.and_eq_false_iff, Bool.or_eq_false_iff, Bool.not_eq_true, Int.ofNat_eq_natCast] at *
    omega
  · with_reducible refine hR3 _ ?_ (fun zq bq hzq hbq => ?_)
    · refine EndOk.mk (by cbv) (by cbv; repeat' (first | exact True.intro | exact rfl | with_reducible refine And.intro ?_ ?_)) (by cbv; repeat' (first | exact True.intro | exact rfl | with_reducible refine And.intro ?_ ?_)) (by cbv)
    have q89 := hzq 89
    cbv at q89
    replace q89 := q89.eq
    simp only [atI, atB, SV.den, SV.dens, den_c, den_x, den_t, den_ar, den_bt, den_dv, den_sh, den_cv, den_mx, den_mn, den_sel, bden_c, bden_x, bden_t, bden_cmp, bden_not, bden_and, bden_eqb, cmpI, arI, dvI, shI, decide_eq_true_eq, decide_eq_false_iff_not, beq_iff_eq, beq_eq_false_iff_ne, bne_iff_ne, bne_eq_false_iff_eq, ne_eq, Bool.and_eq_true, Bool.or_eq_true, Bool.and_eq_false_iff, Bool.or_eq_false_iff, Bool.not_eq_true, Int.ofNat_eq_natCast, IntKind.wrap_i64] at q89
    clear hR3
    simp only [SV.den, SV.dens, den_c, den_x, den_t, den_ar, den_bt, den_dv, den_sh, den_cv, den_mx, den_mn, den_sel, bden_c, bden_x, bden_t, bden_cmp, bden_not, bden_and, bden_eqb, cmpI, arI, dvI, shI, decide_eq_true_eq, decide_eq_false_iff_not, beq_iff_eq, beq_eq_false_iff_ne, bne_iff_ne, bne_eq_false_iff_eq, ne_eq, Bool.and_eq_true, Bool.or_eq_true, Bool.and_eq_false_iff, Bool.or_eq_false_iff, Bool.not_eq_true, Int.ofNat_eq_natCast] at *
    omega
  · with_reducible refine hR3 _ ?_ (fun zq bq hzq hbq => ?_)
    · refine EndOk.mk (by cbv) (by cbv; repeat' (first | exact True.intro | exact rfl | with_reducible refine And.intro ?_ ?_)) (by cbv; repeat' (first | exact True.intro | exact rfl | with_reducible refine And.intro ?_ ?_)) (by cbv)
    have q89 := hzq 89
    cbv at q89
    replace q89 := q89.eq
    simp only [atI, atB, SV.den, SV.dens, den_c, den_x, den_t, den_ar, den_bt, den_dv, den_sh, den_cv, den_mx, den_mn, den_sel, bden_c, bden_x, bden_t, bden_cmp, bden_not, bden_and, bden_eqb, cmpI, arI, dvI, shI, decide_eq_true_eq, decide_eq_false_iff_not, beq_iff_eq, beq_eq_false_iff_ne, bne_iff_ne, bne_eq_false_iff_eq, ne_eq, Bool.and_eq_true, Bool.or_eq_true, Bool.and_eq_false_iff, Bool.or_eq_false_iff, Bool.not_eq_true, Int.ofNat_eq_natCast, IntKind.wrap_i64] at q89
    clear hR3
    simp only [SV.den, SV.dens, den_c, den_x, den_t, den_ar, den_bt, den_dv, den_sh, den_cv, den_mx, den_mn, den_sel, bden_c, bden_x, bden_t, bden_cmp, bden_not, bden_and, bden_eqb, cmpI, arI, dvI, shI, decide_eq_true_eq, decide_eq_false_iff_not, beq_iff_eq, beq_eq_false_iff_ne, bne_iff_ne, bne_eq_false_iff_eq, ne_eq, Bool.and_eq_true, Bool.or_eq_true, Bool.and_eq_false_iff, Bool.or_eq_false_iff, Bool.not_eq_true, Int.ofNat_eq_natCast] at *
    omega
  · with_reducible refine hR3 _ ?_ (fun zq bq hzq hbq => ?_)
    · refine EndOk.mk (by cbv) (by cbv; repeat' (first | exact True.intro | exact rfl | with_reducible refine And.intro ?_ ?_)) (by cbv; repeat' (first | exact True.intro | exact rfl | with_reducible refine And.intro ?_ ?_)) (by cbv)
    have q89 := hzq 89
    cbv at q89
    replace q89 := q89.eq
    simp only [atI, atB, SV.den, SV.dens, den_c, den_x, den_t, den_ar, den_bt, den_dv, den_sh, den_cv, den_mx, den_mn, den_sel, bden_c, bden_x, bden_t, bden_cmp, bden_not, bden_and, bden_eqb, cmpI, arI, dvI, shI, decide_eq_true_eq, decide_eq_false_iff_not, beq_iff_eq, beq_eq_false_iff_ne, bne_iff_ne, bne_eq_false_iff_eq, ne_eq, Bool.and_eq_true, Bool.or_eq_true, Bool.and_eq_false_iff, Bool.or_eq_false_iff, Bool.not_eq_true, Int.ofNat_eq_natCast, IntKind.wrap_i64] at q89
    clear hR3
    simp only [SV.den, SV.dens, den_c, den_x, den_t, den_ar, den_bt, den_dv, den_sh, den_cv, den_mx, den_mn, den_sel, bden_c, bden_x, bden_t, bden_cmp, bden_not, bden_and, bden_eqb, cmpI, arI, dvI, shI, decide_eq_true_eq, decide_eq_false_iff_not, beq_iff_eq, beq_eq_false_iff_ne, bne_iff_ne, bne_eq_false_iff_eq, ne_eq, Bool.and_eq_true, Bool.or_eq_true, Bool.and_eq_false_iff, Bool.or_eq_false_iff, Bool.not_eq_true, Int.ofNat_eq_natCast] at *
    omega
  · with_reducible refine hR3 _ ?_ (fun zq bq hzq hbq => ?_)
    · refine EndOk.mk (by cbv) (by cbv; repeat' (first | exact True.intro | exact rfl | with_reducible refine And.intro ?_ ?_)) (by cbv; repeat' (first | exact True.intro | exact rfl | with_reducible refine And.intro ?_ ?_)) (by cbv)
    have q89 := hzq 89
    cbv at q89
    replace q89 := q89.eq
    simp only [atI, atB, SV.den, SV.dens, den_c, den_x, den_t, den_ar, den_bt, den_dv, den_sh, den_cv, den_mx, den_mn, den_sel, bden_c, bden_x, bden_t, bden_cmp, bden_not, bden_and, bden_eqb, cmpI, arI, dvI, shI, decide_eq_true_eq, decide_eq_false_iff_not, beq_iff_eq, beq_eq_false_iff_ne, bne_iff_ne, bne_eq_false_iff_eq, ne_eq, Bool.and_eq_true, Bool.or_eq_true, Bool.and_eq_false_iff, Bool.or_eq_false_iff, Bool.not_eq_true, Int.ofNat_eq_natCast, IntKind.wrap_i64] at q89
    clear hR3
    simp only [SV.den, SV.dens, den_c, den_x, den_t, den_ar, den_bt, den_dv, den_sh, den_cv, den_mx, den_mn, den_sel, bden_c, bden_x, bden_t, bden_cmp, bden_not, bden_and, bden_eqb, cmpI, arI, dvI, shI, decide_eq_true_eq, decide_eq_false_iff_not, beq_iff_eq, beq_eq_false_iff_ne, bne_iff_ne, bne_eq_false_iff_eq, ne_eq, Bool.and_eq_true, Bool.or_eq_true, Bool.and_eq_false_iff, Bool.or_eq_false_iff, Bool.not_eq_true, Int.ofNat_eq_natCast] at *
    omega
  · with_reducible refine hR2 _ ?_ (fun zq bq hzq hbq => ?_)
    · refine EndOk.mk (by cbv) (by cbv; repeat' (first | exact True.intro | exact rfl | with_reducible refine And.intro ?_ ?_)) (by cbv; repeat' (first | exact True.intro | exact rfl | with_reducible refine And.intro ?_ ?_)) (by cbv)
    have q73 := hzq 73
    cbv at q73
    replace q73 := q73.eq
    simp only [atI, atB, SV.den, SV.dens, den_c, den_x, den_t, den_ar, den_bt, den_dv, den_sh, den_cv, den_mx, den_mn, den_sel, bden_c, bden_x, bden_t, bden_cmp, bden_not, bden_and, bden_eqb, cmpI, arI, dvI, shI, decide_eq_true_eq, decide_eq_false_iff_not, beq_iff_eq, beq_eq_false_iff_ne, bne_iff_ne, bne_eq_false_iff_eq, ne_eq, Bool.and_eq_true, Bool.or_eq_true, Bool.and_eq_false_iff, Bool.or_eq_false_iff, Bool.not_eq_true, Int.ofNat_eq_natCast, IntKind.wrap_i64] at q73
    clear hR2
    simp only [SV.den, SV.dens, den_c, den_x, den_t, den_ar, den_bt, den_dv, den_sh, den_cv, den_mx, den_mn, den_sel, bden_c, bden_x, bden_t, bden_cmp, bden_not, bden_and, bden_eqb, cmpI, arI, dvI, shI, decide_eq_true_eq, decide_eq_false_iff_not, beq_iff_eq, beq_eq_false_iff_ne, bne_iff_ne, bne_eq_false_iff_eq, ne_eq, Bool.and_eq_true, Bool.or_eq_true, Bool.and_eq_false_iff, Bool.or_eq_false_iff, Bool.not_eq_true, Int.ofNat_eq_natCast] at *
    omega
end Go.Proofs.Ytiinlanpinanhaa
