/- Contracts: ranges and selectors that are drawn. -/
import Derived.Test.YtbdfijdianaghaaVB
set_option linter.unusedVariables false
set_option linter.unusedSimpArgs false
namespace Go.Proofs.Ytbdfijdianaghaa.V
open Go.RowKit
set_option maxHeartbeats 8000000
set_option maxRecDepth 100000
theorem adr4_in (x y : Int) (h0 : 0 ≤ x) (h1 : x < 4) (h2 : 0 ≤ y) (h3 : y < 8) : AdrF 4 ⟨4, 0, IntKind.u64.wrap (selI [167772160, 3232235520, 0, 4294967288] x + IntKind.u64.wrap y)⟩ := by
 have hx : 0 ≤ selI [167772160, 3232235520, 0, 4294967288] x ∧ selI [167772160, 3232235520, 0, 4294967288] x ≤ 4294967288 := by
  rcases (show x = 0 ∨ x = 1 ∨ x = 2 ∨ x = 3 from by omega) with rfl | rfl | rfl | rfl <;> decide
 generalize selI [167772160, 3232235520, 0, 4294967288] x = z at *
 have e : IntKind.u64.wrap (z + IntKind.u64.wrap y) = z + y := by rw [IntKind.wrap_u64, IntKind.wrap_u64]; omega
 rw [e]
 exact ⟨rfl, ⟨by simp, by simp, by simp, by simp, by simp only; omega, by simp only; omega⟩, by simp [valid]; omega⟩
theorem adr6_in (x y z : Int) (h0 : 0 ≤ x) (h1 : x < 3) (h2 : 0 ≤ y) (h3 : y < 3) (h4 : 0 ≤ z) (h5 : z < 8) :
    AdrF 6 ⟨6, selI [2306139568115548160, 0, 18446744073709551615] x, IntKind.u64.wrap (selI [0, 18446744073709551608, 9223372036854775808] y + IntKind.u64.wrap z)⟩ := by
 have hx : 0 ≤ selI [2306139568115548160, 0, 18446744073709551615] x ∧ selI [2306139568115548160, 0, 18446744073709551615] x ≤ 18446744073709551615 := by
  rcases (show x = 0 ∨ x = 1 ∨ x = 2 from by omega) with rfl | rfl | rfl <;> decide
 have e := IntKind.wrap_u64 (selI [0, 18446744073709551608, 9223372036854775808] y + IntKind.u64.wrap z)
 refine ⟨rfl, ⟨by simp, by simp, by simp only; omega, by simp only; omega, ?_, ?_⟩, by simp [valid]⟩
 ·simp only [e]; omega
 ·simp only [e]; omega
theorem selp_in (x : Int) (h0 : 0 ≤ x) (h1 : x < 5) : 0 ≤ selI [0, 0, 6, 17, 1] x ∧ selI [0, 0, 6, 17, 1] x ≤ 255 := by
 rcases (show x = 0 ∨ x = 1 ∨ x = 2 ∨ x = 3 ∨ x = 4 from by omega) with rfl | rfl | rfl | rfl | rfl <;> decide
theorem selq_in (x y : Int) (h0 : 0 ≤ x) (h1 : x < 5) (h2 : 0 ≤ y) (h3 : y < 6) : 0 ≤ selI [0, 80, 443, 65530, 1] x ∧ selI [0, 80, 443, 65530, 1] x ≤ (if (selI [0, 80, 443, 65530, 1] x + y + 9223372036854775808) % 18446744073709551616 - 9223372036854775808 < 65535 then (selI [0, 80, 443, 65530, 1] x + y + 9223372036854775808) % 18446744073709551616 - 9223372036854775808 else 65535) ∧ (if (selI [0, 80, 443, 65530, 1] x + y + 9223372036854775808) % 18446744073709551616 - 9223372036854775808 < 65535 then (selI [0, 80, 443, 65530, 1] x + y + 9223372036854775808) % 18446744073709551616 - 9223372036854775808 else 65535) ≤ 65535 := by
 have hx : 0 ≤ selI [0, 80, 443, 65530, 1] x ∧ selI [0, 80, 443, 65530, 1] x ≤ 65530 := by
  rcases (show x = 0 ∨ x = 1 ∨ x = 2 ∨ x = 3 ∨ x = 4 from by omega) with rfl | rfl | rfl | rfl | rfl <;> decide
 generalize selI [0, 80, 443, 65530, 1] x = z at *
 split <;> omega
def allC_t : SpecT := lf0 72 (fnSpec [adrE, .int .i64] [adrE, adrE, .int .i64] [] pfxPre pfxPost)
def allC : Cx := ⟨tt, qt, bt, st, allC_t, 0, 1000000000000000, fun _ => none, false, CxE.no, []⟩
theorem allC_si {E : Env} (h : E.ok) : SpecsOk Try.prog E (CxE.no) allC_t (fun _ => none) := ⟨(lf0_ok (.inl (prefix_sp h))), noI_ok _ _ _⟩
theorem allC_x {E : Env} (h : E.ok) : CxEOk Try.prog E (CxE.no) := CxE.no_ok _ _
theorem allC_cx (E : Env) (h : E.ok) (h1 : E.lo = 0) (h2 : E.hi = 1000000000000000) : Cx.ok allC Try.prog E := ⟨tt_ok, qt_ok, bt_ok, allC_si h, h, h1, h2, mixed_ok, allC_x h⟩
theorem allC_from (lo hi : Nat) (E : Env) (h : E.ok) (h1 : E.lo = lo) (h2 : E.hi = hi) : Cx.ok (Cx.from allC lo hi) Try.prog E := ⟨tt_ok, qt_ok, bt_ok, allC_si h, h, h1, h2, mixed_ok, allC_x h⟩
abbrev famPre : Shp.Ds [.int .i64] → Prop := fun x => x.1 = 4 ∨ x.1 = 6
abbrev spanPost : Shp.Ds [.int .i64] → Shp.Ds [adrE, adrE] → Prop := fun x y => SpanP x.1 (toAdr y.1) (toAdr y.2.1)
theorem adrF0 {f : Int} (h : f = 4 ∨ f = 6) : AdrF f ⟨f, 0, 0⟩ := by
 rcases h with rfl | rfl
 ·exact ⟨rfl, ⟨by decide, by decide, by decide, by decide, by decide, by decide⟩, rfl⟩
 ·exact ⟨rfl, ⟨by decide, by decide, by decide, by decide, by decide, by decide⟩, rfl⟩
theorem rall_fn : hasFn Try.prog 71 := ⟨_, Try.func71, by rfl, by rfl⟩
theorem rall_sp {E : Env} (hE : E.ok) : SpecOk Try.prog E 71 (fnSpec [.int .i64] [adrE, adrE] [] famPre spanPost) := by
 refine spec_of_vc (C := allC) rall_fn Try.func71 (by kernel_rfl) allC_cx (fun x hl hx => ?_) hE
 obtain ⟨f, u⟩ := x
 cbv
 (repeat' (first | ((with_reducible apply And.intro <;> intro h) <;> (first | with_reducible exact (tf h (by assumption)).elim | with_reducible exact (tf (by assumption) h).elim | cbv)) | ((with_reducible first | refine Cb.mk ?_ | refine Lz.mk ?_ | refine JoinT.left ?_ | (apply AllT.mk; intro x hx)); cbv) | ((with_reducible refine Ob.mk (fun _ => ?_) ?_); rotate_left 1) | (with_reducible first | refine Mg.mk (Exists.intro ?_ (And.intro ?_ ?_)) | rfl | refine Fin.mk ?_ | exact True.intro | refine And.intro ?_ ?_)))
 all_goals (try dsimp only [Shp.D, Shp.Ds, Shp.dflt] at *); simp only [vem, veq, ne_eq, cmpI, arI, dvI, shI, SV.den, obLt, elemAt, obApp, partL, obPart, lowD, highD, mxOk, convL_self, zerosB, List.length_replicate, vln] at *; (try dsimp only [Shp.D, Shp.Ds, Shp.dflt, Shp.dflts] at *)
 ·exact hx.1.1
 ·exact adrF0 hx
 ·exact Int.le_refl _
 ·exact Int.natCast_nonneg _
theorem adr_fn : hasFn Try.prog 73 := ⟨_, Try.func73, by rfl, by rfl⟩
abbrev adrPost : Shp.Ds [.int .i64] → Shp.Ds [adrE] → Prop := fun x y => AdrF x.1 (toAdr y.1)
theorem adr_sp {E : Env} (hE : E.ok) : SpecOk Try.prog E 73 (drSpec 63 [.int .i64] [adrE] [] famPre adrPost) := by
 refine spec_of_vcD (C := nxC) adr_fn Try.func73 (by kernel_rfl) nxC_cx (fun x hl hx => ?_) hE
 obtain ⟨f, u⟩ := x
 rcases (show f = 4 ∨ f = 6 from hx) with rfl | rfl
 ·cbv
  (repeat' (first | ((with_reducible apply And.intro <;> intro h) <;> (first | with_reducible exact (tf h (by assumption)).elim | with_reducible exact (tf (by assumption) h).elim | cbv)) | ((with_reducible first | refine Cb.mk ?_ | refine Lz.mk ?_ | refine JoinT.left ?_ | (apply AllT.mk; intro x hx)); cbv) | ((with_reducible refine Ob.mk (fun _ => ?_) ?_); rotate_left 1) | (with_reducible first | refine Mg.mk (Exists.intro ?_ (And.intro ?_ ?_)) | rfl | refine Fin.mk ?_ | exact True.intro | refine And.intro ?_ ?_)))
  all_goals first
   | (((try dsimp only [Shp.D, Shp.Ds, Shp.dflt] at *); simp only [vem, veq, ne_eq, cmpI, arI, dvI, shI, SV.den, obLt, elemAt, obApp, partL, obPart, lowD, highD, mxOk, convL_self, zerosB, List.length_replicate, vln] at *; (try dsimp only [Shp.D, Shp.Ds, Shp.dflt, Shp.dflts] at *)) <;> (try simp only [Shp.lims, Shp.lim, IntKind.wrap_u64, IntKind.wrap_u8] at *) <;> omega)
   | skip
  all_goals (try dsimp only [Shp.D, Shp.Ds, Shp.dflt] at *); simp only [vem, veq, ne_eq, cmpI, arI, dvI, shI, SV.den, obLt, elemAt, obApp, partL, obPart, lowD, highD, mxOk, convL_self, zerosB, List.length_replicate, vln] at *; (try dsimp only [Shp.D, Shp.Ds, Shp.dflt, Shp.dflts] at *)
  all_goals first
   | exact absurd trivial ‹¬ True›
   | exact adr4_in _ _ (by omega) (by omega) (by omega) (by omega)
   | exact adr6_in _ _ _ (by omega) (by omega) (by omega) (by omega) (by omega) (by omega)
 ·cbv
  (repeat' (first | ((with_reducible apply And.intro <;> intro h) <;> (first | with_reducible exact (tf h (by assumption)).elim | with_reducible exact (tf (by assumption) h).elim | cbv)) | ((with_reducible first | refine Cb.mk ?_ | refine Lz.mk ?_ | refine JoinT.left ?_ | (apply AllT.mk; intro x hx)); cbv) | ((with_reducible refine Ob.mk (fun _ => ?_) ?_); rotate_left 1) | (with_reducible first | refine Mg.mk (Exists.intro ?_ (And.intro ?_ ?_)) | rfl | refine Fin.mk ?_ | exact True.intro | refine And.intro ?_ ?_)))
  all_goals first
   | (((try dsimp only [Shp.D, Shp.Ds, Shp.dflt] at *); simp only [vem, veq, ne_eq, cmpI, arI, dvI, shI, SV.den, obLt, elemAt, obApp, partL, obPart, lowD, highD, mxOk, convL_self, zerosB, List.length_replicate, vln] at *; (try dsimp only [Shp.D, Shp.Ds, Shp.dflt, Shp.dflts] at *)) <;> (try simp only [Shp.lims, Shp.lim, IntKind.wrap_u64, IntKind.wrap_u8] at *) <;> omega)
   | skip
  all_goals (try dsimp only [Shp.D, Shp.Ds, Shp.dflt] at *); simp only [vem, veq, ne_eq, cmpI, arI, dvI, shI, SV.den, obLt, elemAt, obApp, partL, obPart, lowD, highD, mxOk, convL_self, zerosB, List.length_replicate, vln] at *; (try dsimp only [Shp.D, Shp.Ds, Shp.dflt, Shp.dflts] at *)
  all_goals first
   | exact absurd trivial ‹¬ True›
   | exact adr4_in _ _ (by omega) (by omega) (by omega) (by omega)
   | exact adr6_in _ _ _ (by omega) (by omega) (by omega) (by omega) (by omega) (by omega)
def spC_t : SpecT := nd0 72 (nd0 71 (lf0 9 (drSpec 63 [.int .i64] [.int .i64] [] nextPre nextPost)) (lf0 71 (fnSpec [.int .i64] [adrE, adrE] [] famPre spanPost))) (nd0 73 (lf0 72 (fnSpec [adrE, .int .i64] [adrE, adrE, .int .i64] [] pfxPre pfxPost)) (lf0 73 (drSpec 63 [.int .i64] [adrE] [] famPre adrPost)))
def spC : Cx := ⟨tt, qt, bt, st, spC_t, 0, 1000000000000000, fun _ => none, false, CxE.no, []⟩
theorem spC_si {E : Env} (h : E.ok) : SpecsOk Try.prog E (CxE.no) spC_t (fun _ => none) := ⟨(nd0_ok (nd0_ok (lf0_ok (.inl (next_sp h))) (lf0_ok (.inl (rall_sp h)))) (nd0_ok (lf0_ok (.inl (prefix_sp h))) (lf0_ok (.inl (adr_sp h))))), noI_ok _ _ _⟩
theorem spC_x {E : Env} (h : E.ok) : CxEOk Try.prog E (CxE.no) := CxE.no_ok _ _
theorem spC_cx (E : Env) (h : E.ok) (h1 : E.lo = 0) (h2 : E.hi = 1000000000000000) : Cx.ok spC Try.prog E := ⟨tt_ok, qt_ok, bt_ok, spC_si h, h, h1, h2, mixed_ok, spC_x h⟩
theorem spC_from (lo hi : Nat) (E : Env) (h : E.ok) (h1 : E.lo = lo) (h2 : E.hi = hi) : Cx.ok (Cx.from spC lo hi) Try.prog E := ⟨tt_ok, qt_ok, bt_ok, spC_si h, h, h1, h2, mixed_ok, spC_x h⟩
theorem spanOf {f : Int} {a b : Adr} (ha : AdrF f a) (hb : AdrF f b) (h : a.hi < b.hi ∨ (a.hi = b.hi ∧ a.lo ≤ b.lo)) : SpanP f a b := by
 refine ⟨ha, hb, ?_⟩
 have h1 := ha.fam; have h2 := hb.fam
 have h3 := ha.ok.l0; have h4 := ha.ok.l1; have h5 := hb.ok.l0; have h6 := hb.ok.l1
 unfold key
 rw [h1, h2]
 omega
theorem span_fn : hasFn Try.prog 57 := ⟨_, Try.func57, by rfl, by rfl⟩
theorem span_sp {E : Env} (hE : E.ok) : SpecOk Try.prog E 57 (drSpec 63 [.int .i64] [adrE, adrE] [] famPre spanPost) := by
 refine spec_of_vcD (C := spC) span_fn Try.func57 (by kernel_rfl) spC_cx (fun x hl hx => ?_) hE
 obtain ⟨f, u⟩ := x
 have hf : f = 4 ∨ f = 6 := hx
 have hb : 32 ≤ abits f := by unfold abits; split <;> omega
 cbv
 (repeat' (first | ((with_reducible apply And.intro <;> intro h) <;> (first | with_reducible exact (tf h (by assumption)).elim | with_reducible exact (tf (by assumption) h).elim | cbv)) | ((with_reducible first | refine Cb.mk ?_ | refine Lz.mk ?_ | refine JoinT.left ?_ | (apply AllT.mk; intro x hx)); cbv) | ((with_reducible refine Ob.mk (fun _ => ?_) ?_); rotate_left 1) | (with_reducible first | refine Mg.mk (Exists.intro ?_ (And.intro ?_ ?_)) | rfl | refine Fin.mk ?_ | exact True.intro | refine And.intro ?_ ?_)))
 all_goals first
  | (((try dsimp only [Shp.D, Shp.Ds, Shp.dflt] at *); simp only [vem, veq, ne_eq, cmpI, arI, dvI, shI, SV.den, obLt, elemAt, obApp, partL, obPart, lowD, highD, mxOk, convL_self, zerosB, List.length_replicate, vln] at *; (try dsimp only [Shp.D, Shp.Ds, Shp.dflt, Shp.dflts] at *)) <;> (try simp only [Shp.lims, Shp.lim, IntKind.wrap_u64, IntKind.wrap_u8] at *) <;> omega)
  | skip
 all_goals (try dsimp only [Shp.D, Shp.Ds, Shp.dflt] at *); simp only [vem, veq, ne_eq, cmpI, arI, dvI, shI, SV.den, obLt, elemAt, obApp, partL, obPart, lowD, highD, mxOk, convL_self, zerosB, List.length_replicate, vln] at *; (try dsimp only [Shp.D, Shp.Ds, Shp.dflt, Shp.dflts] at *)
 ·exact hx.1
 ·rename_i xa xm _ _ ha _
  have e : xa.fst.fst = f := ha.1.fam
  rw [e] at hx
  exact hx.1.1
 ·rename_i xa _ _ _ ha
  have e : xa.fst.fst = f := ha.1.fam
  have h2 : AdrF xa.fst.fst (toAdr xa.fst) := by rw [e]; exact ha.1
  exact h2
 ·rename_i ha
  have e := ha.1.fam
  simp only [toAdr] at e
  rw [e]
  omega
 ·rename_i ha
  exact spanOf hx.1 ha.1 (.inl (by simp only [toAdr]; omega))
 ·rename_i ha hn he
  exact spanOf hx.1 ha.1 (.inr (by simp only [toAdr]; omega))
 ·rename_i ha hn he
  exact spanOf ha.1 hx.1 (.inr (by simp only [toAdr]; omega))
 ·rename_i ha hn
  exact spanOf ha.1 hx.1 (.inl (by simp only [toAdr]; omega))
structure SelG (f : Int) (s : Sel) : Prop where
 good : s.good
 fam : s.lo.fam = f
theorem selGood {f pr pl ph : Int} {a b : Adr} (h : SpanP f a b) (hp : 0 ≤ pr ∧ pr ≤ 255) (hq : (pl = 65535 ∧ ph = 0) ∨ (0 ≤ pl ∧ pl ≤ ph ∧ ph ≤ 65535)) : SelG f ⟨pr, pl, ph, a, b⟩ := by
 obtain ⟨ha, hb, hk⟩ := h
 exact ⟨⟨⟨ha.ok, hb.ok, by rw [ha.fam, hb.fam], hk, hp.1, hp.2, hq⟩, ha.val, hb.val⟩, ha.fam⟩
abbrev selPost : Shp.Ds [.int .i64] → Shp.Ds [selE] → Prop := fun x y => SelG x.1 (toSel y.1)
def slC_t : SpecT := nd0 57 (lf0 9 (drSpec 63 [.int .i64] [.int .i64] [] nextPre nextPost)) (lf0 57 (drSpec 63 [.int .i64] [adrE, adrE] [] famPre spanPost))
def slC : Cx := ⟨tt, qt, bt, st, slC_t, 0, 1000000000000000, fun _ => none, false, CxE.no, []⟩
theorem slC_si {E : Env} (h : E.ok) : SpecsOk Try.prog E (CxE.no) slC_t (fun _ => none) := ⟨(nd0_ok (lf0_ok (.inl (next_sp h))) (lf0_ok (.inl (span_sp h)))), noI_ok _ _ _⟩
theorem slC_x {E : Env} (h : E.ok) : CxEOk Try.prog E (CxE.no) := CxE.no_ok _ _
theorem slC_cx (E : Env) (h : E.ok) (h1 : E.lo = 0) (h2 : E.hi = 1000000000000000) : Cx.ok slC Try.prog E := ⟨tt_ok, qt_ok, bt_ok, slC_si h, h, h1, h2, mixed_ok, slC_x h⟩
theorem slC_from (lo hi : Nat) (E : Env) (h : E.ok) (h1 : E.lo = lo) (h2 : E.hi = hi) : Cx.ok (Cx.from slC lo hi) Try.prog E := ⟨tt_ok, qt_ok, bt_ok, slC_si h, h, h1, h2, mixed_ok, slC_x h⟩
theorem selr_fn : hasFn Try.prog 40 := ⟨_, Try.func40, by rfl, by rfl⟩
theorem selr_sp {E : Env} (hE : E.ok) : SpecOk Try.prog E 40 (drSpec 63 [.int .i64] [selE] [] famPre selPost) := by
 refine spec_of_vcD (C := slC) selr_fn Try.func40 (by kernel_rfl) slC_cx (fun x hl hx => ?_) hE
 obtain ⟨f, u⟩ := x
 have hf : f = 4 ∨ f = 6 := hx
 cbv
 (repeat' (first | ((with_reducible apply And.intro <;> intro h) <;> (first | with_reducible exact (tf h (by assumption)).elim | with_reducible exact (tf (by assumption) h).elim | cbv)) | ((with_reducible first | refine Cb.mk ?_ | refine Lz.mk ?_ | refine JoinT.left ?_ | (apply AllT.mk; intro x hx)); cbv) | ((with_reducible refine Ob.mk (fun _ => ?_) ?_); rotate_left 1) | (with_reducible first | refine Mg.mk (Exists.intro ?_ (And.intro ?_ ?_)) | rfl | refine Fin.mk ?_ | exact True.intro | refine And.intro ?_ ?_)))
 all_goals first
  | (((try dsimp only [Shp.D, Shp.Ds, Shp.dflt] at *); simp only [vem, veq, ne_eq, cmpI, arI, dvI, shI, SV.den, obLt, elemAt, obApp, partL, obPart, lowD, highD, mxOk, convL_self, zerosB, List.length_replicate, vln] at *; (try dsimp only [Shp.D, Shp.Ds, Shp.dflt, Shp.dflts] at *)) <;> (try simp only [Shp.lims, Shp.lim, IntKind.wrap_u64, IntKind.wrap_u8] at *) <;> omega)
  | skip
 all_goals (try dsimp only [Shp.D, Shp.Ds, Shp.dflt] at *); simp only [vem, veq, ne_eq, cmpI, arI, dvI, shI, SV.den, obLt, elemAt, obApp, partL, obPart, lowD, highD, mxOk, convL_self, zerosB, List.length_replicate, vln] at *; (try dsimp only [Shp.D, Shp.Ds, Shp.dflt, Shp.dflts] at *)
 all_goals (obtain ⟨hspan, _⟩ := ‹SpanP f _ _ ∧ _›)
 all_goals first
  | exact selGood hspan (selp_in _ (by omega) (by omega)) (.inl ⟨rfl, rfl⟩)
  | exact selGood hspan (selp_in _ (by omega) (by omega)) (.inr ⟨by dsimp only; omega, by dsimp only; omega, by dsimp only; omega⟩)
  | exact selGood hspan (selp_in _ (by omega) (by omega)) (.inr (selq_in _ _ (by omega) (by omega) (by omega) (by omega)))
def slsC_t : SpecT := nd0 40 (lf0 9 (drSpec 63 [.int .i64] [.int .i64] [] nextPre nextPost)) (lf0 40 (drSpec 63 [.int .i64] [selE] [] famPre selPost))
def slsC : Cx := ⟨tt, qt, bt, st, slsC_t, 0, 1000000000000000, fun _ => none, false, CxE.no, []⟩
theorem slsC_si {E : Env} (h : E.ok) : SpecsOk Try.prog E (CxE.no) slsC_t (fun _ => none) := ⟨(nd0_ok (lf0_ok (.inl (next_sp h))) (lf0_ok (.inl (selr_sp h)))), noI_ok _ _ _⟩
theorem slsC_x {E : Env} (h : E.ok) : CxEOk Try.prog E (CxE.no) := CxE.no_ok _ _
theorem slsC_cx (E : Env) (h : E.ok) (h1 : E.lo = 0) (h2 : E.hi = 1000000000000000) : Cx.ok slsC Try.prog E := ⟨tt_ok, qt_ok, bt_ok, slsC_si h, h, h1, h2, mixed_ok, slsC_x h⟩
theorem slsC_from (lo hi : Nat) (E : Env) (h : E.ok) (h1 : E.lo = lo) (h2 : E.hi = hi) : Cx.ok (Cx.from slsC lo hi) Try.prog E := ⟨tt_ok, qt_ok, bt_ok, slsC_si h, h, h1, h2, mixed_ok, slsC_x h⟩
theorem selrs_fn : hasFn Try.prog 25 := ⟨_, Try.func25, by rfl, by rfl⟩
structure SelsG (m : Int) (l : List SelT) : Prop where
 ne : 1 ≤ l.length
 le : (l.length : Int) ≤ m
 all : ∃ f, (f = 4 ∨ f = 6) ∧ ∀ s ∈ l, SelG f (toSel s)
theorem selrs_sp {E : Env} (hE : E.ok) : SpecOk Try.prog E 25 (drSpec 63 [.int .i64] [.sl selE] [.own 96] (fun x => 1 ≤ x.1 ∧ x.1 ≤ 256) fun x y => SelsG x.1 y.1) := by
 refine spec_of_vcD (C := slsC) selrs_fn Try.func25 (by kernel_rfl) slsC_cx (fun x hl hx => ?_) hE
 obtain ⟨m, u⟩ := x
 have hm : 1 ≤ m ∧ m ≤ 256 := hx
 cbv
 (repeat' (first | ((with_reducible apply And.intro <;> intro h) <;> (first | with_reducible exact (tf h (by assumption)).elim | with_reducible exact (tf (by assumption) h).elim | cbv)) | ((with_reducible first | refine Cb.mk ?_ | refine Lz.mk ?_ | refine JoinT.left ?_ | (apply AllT.mk; intro x hx)); cbv) | ((with_reducible refine Ob.mk (fun _ => ?_) ?_); rotate_left 1) | (with_reducible first | refine Mg.mk (Exists.intro ?_ (And.intro ?_ ?_)) | rfl | refine Fin.mk ?_ | exact True.intro | refine And.intro ?_ ?_)))
 all_goals first
  | (((try dsimp only [Shp.D, Shp.Ds, Shp.dflt] at *); simp only [vem, veq, ne_eq, cmpI, arI, dvI, shI, SV.den, obLt, elemAt, obApp, partL, obPart, lowD, highD, mxOk, convL_self, zerosB, List.length_replicate, vln] at *; (try dsimp only [Shp.D, Shp.Ds, Shp.dflt, Shp.dflts] at *)) <;> (try simp only [Shp.lims, Shp.lim, IntKind.wrap_u64, IntKind.wrap_u8] at *) <;> omega)
  | skip
 ·with_reducible refine loop_hv [(6, 900, 96, selE)] (rangeN 15 10) [] [900] (fun z b t y => 0 ≤ z 7 ∧ 1 ≤ ((y 900 selE).length : Int) + z 7 ∧ ((y 900 selE).length : Int) + z 7 ≤ m ∧ ∀ s ∈ y 900 selE, SelG 6 (toSel s)) (fun z b t y => (z 7).toNat) (by cbv) (by cbv) ?_ ?_ (fun z1 b1 t1 u1 y1 R1 hP1 hR1 => ?_)
  ·refine EndOk.mk (by cbv) (by cbv) (by cbv; repeat' (first | exact True.intro | exact rfl | with_reducible refine And.intro ?_ ?_)) (by cbv; repeat' (first | exact True.intro | exact rfl | with_reducible refine And.intro ?_ ?_)) (by cbv; repeat' (first | exact True.intro | exact rfl | with_reducible refine And.intro ?_ ?_))
  ·intro zq bq tq yq hUq
   have q7 := hUq.z 7
   cbv at q7
   replace q7 := q7.eq
   simp only [atI, vem, veq, ne_eq, cmpI, arI, dvI, shI, SV.den] at q7
   have qy900 := hUq.y 900 (selE)
   cbv at qy900
   replace qy900 := qy900.eq
   simp only [atY, convL_self, vem, veq, ne_eq, cmpI, arI, dvI, shI, SV.den] at qy900
   clear hUq
   try dsimp only [Shp.D, Shp.Ds, Shp.dflt] at *
   try simp only [vem, veq, ne_eq, cmpI, arI, dvI, shI, SV.den, convL_self] at *
   rw [← qy900]
   simp only [List.length_nil]
   refine ⟨by omega, by omega, by omega, fun s hs => by cases hs⟩
  obtain ⟨p1, p2, p3, p4⟩ := hP1
  cbv
  (repeat' (first | ((with_reducible apply And.intro <;> intro h) <;> (first | with_reducible exact (tf h (by assumption)).elim | with_reducible exact (tf (by assumption) h).elim | cbv)) | ((with_reducible first | refine Cb.mk ?_ | refine Lz.mk ?_ | refine JoinT.left ?_ | (apply AllT.mk; intro x hx)); cbv) | ((with_reducible refine Ob.mk (fun _ => ?_) ?_); rotate_left 1) | (with_reducible first | refine Mg.mk (Exists.intro ?_ (And.intro ?_ ?_)) | rfl | refine Fin.mk ?_ | exact True.intro | refine And.intro ?_ ?_)))
  all_goals first | (with_reducible show Goes _ _ _ _; skip) | (clear hR1)
  ·with_reducible refine hR1 _ ?_ (fun zq bq tq yq hUq => ?_)
   ·refine EndOk.mk (by cbv) (by cbv) (by cbv; repeat' (first | exact True.intro | exact rfl | with_reducible refine And.intro ?_ ?_)) (by cbv; repeat' (first | exact True.intro | exact rfl | with_reducible refine And.intro ?_ ?_)) (by cbv; repeat' (first | exact True.intro | exact rfl | with_reducible refine And.intro ?_ ?_))
   have q7 := hUq.z 7
   cbv at q7
   replace q7 := q7.eq
   simp only [atI, vem, veq, ne_eq, cmpI, arI, dvI, shI, SV.den] at q7
   have qy900 := hUq.y 900 (selE)
   cbv at qy900
   replace qy900 := qy900.eq
   simp only [atY, convL_self, vem, veq, ne_eq, cmpI, arI, dvI, shI, SV.den] at qy900
   clear hUq hR1
   try dsimp only [Shp.D, Shp.Ds, Shp.dflt] at *
   try simp only [vem, veq, ne_eq, cmpI, arI, dvI, shI, SV.den, elemAt, convL_self] at *
   try dsimp only [Shp.D, Shp.Ds, Shp.dflt, Shp.dflts] at *
   rw [← qy900]
   simp only [List.length_append, List.length_cons, List.length_nil]
   refine ⟨⟨by omega, by omega, by omega, fun s hs => ?_⟩, by omega⟩
   rcases List.mem_append.1 hs with hs | hs
   ·exact p4 s hs
   ·rw [List.mem_singleton] at hs
    subst hs
    exact hx.1
  all_goals first
   | (((try dsimp only [Shp.D, Shp.Ds, Shp.dflt] at *); simp only [vem, veq, ne_eq, cmpI, arI, dvI, shI, SV.den, obLt, elemAt, obApp, partL, obPart, lowD, highD, mxOk, convL_self, zerosB, List.length_replicate, vln] at *; (try dsimp only [Shp.D, Shp.Ds, Shp.dflt, Shp.dflts] at *)) <;> (try simp only [Shp.lims, Shp.lim, IntKind.wrap_u64, IntKind.wrap_u8] at *) <;> omega)
   | skip
  all_goals (try dsimp only [Shp.D, Shp.Ds, Shp.dflt] at *); simp only [vem, veq, ne_eq, cmpI, arI, dvI, shI, SV.den, obLt, elemAt, obApp, partL, obPart, lowD, highD, mxOk, convL_self, zerosB, List.length_replicate, vln] at *; (try dsimp only [Shp.D, Shp.Ds, Shp.dflt, Shp.dflts] at *)
  all_goals first
   | exact .inr trivial
   | exact .inl trivial
   | exact ⟨by omega, by omega, _, .inr rfl, p4⟩
   | exact ⟨by omega, by omega, _, .inl rfl, p4⟩
 ·with_reducible refine loop_hv [(6, 900, 96, selE)] (rangeN 15 10) [] [900] (fun z b t y => 0 ≤ z 7 ∧ 1 ≤ ((y 900 selE).length : Int) + z 7 ∧ ((y 900 selE).length : Int) + z 7 ≤ m ∧ ∀ s ∈ y 900 selE, SelG 4 (toSel s)) (fun z b t y => (z 7).toNat) (by cbv) (by cbv) ?_ ?_ (fun z1 b1 t1 u1 y1 R1 hP1 hR1 => ?_)
  ·refine EndOk.mk (by cbv) (by cbv) (by cbv; repeat' (first | exact True.intro | exact rfl | with_reducible refine And.intro ?_ ?_)) (by cbv; repeat' (first | exact True.intro | exact rfl | with_reducible refine And.intro ?_ ?_)) (by cbv; repeat' (first | exact True.intro | exact rfl | with_reducible refine And.intro ?_ ?_))
  ·intro zq bq tq yq hUq
   have q7 := hUq.z 7
   cbv at q7
   replace q7 := q7.eq
   simp only [atI, vem, veq, ne_eq, cmpI, arI, dvI, shI, SV.den] at q7
   have qy900 := hUq.y 900 (selE)
   cbv at qy900
   replace qy900 := qy900.eq
   simp only [atY, convL_self, vem, veq, ne_eq, cmpI, arI, dvI, shI, SV.den] at qy900
   clear hUq
   try dsimp only [Shp.D, Shp.Ds, Shp.dflt] at *
   try simp only [vem, veq, ne_eq, cmpI, arI, dvI, shI, SV.den, convL_self] at *
   rw [← qy900]
   simp only [List.length_nil]
   refine ⟨by omega, by omega, by omega, fun s hs => by cases hs⟩
  obtain ⟨p1, p2, p3, p4⟩ := hP1
  cbv
  (repeat' (first | ((with_reducible apply And.intro <;> intro h) <;> (first | with_reducible exact (tf h (by assumption)).elim | with_reducible exact (tf (by assumption) h).elim | cbv)) | ((with_reducible first | refine Cb.mk ?_ | refine Lz.mk ?_ | refine JoinT.left ?_ | (apply AllT.mk; intro x hx)); cbv) | ((with_reducible refine Ob.mk (fun _ => ?_) ?_); rotate_left 1) | (with_reducible first | refine Mg.mk (Exists.intro ?_ (And.intro ?_ ?_)) | rfl | refine Fin.mk ?_ | exact True.intro | refine And.intro ?_ ?_)))
  all_goals first | (with_reducible show Goes _ _ _ _; skip) | (clear hR1)
  ·with_reducible refine hR1 _ ?_ (fun zq bq tq yq hUq => ?_)
   ·refine EndOk.mk (by cbv) (by cbv) (by cbv; repeat' (first | exact True.intro | exact rfl | with_reducible refine And.intro ?_ ?_)) (by cbv; repeat' (first | exact True.intro | exact rfl | with_reducible refine And.intro ?_ ?_)) (by cbv; repeat' (first | exact True.intro | exact rfl | with_reducible refine And.intro ?_ ?_))
   have q7 := hUq.z 7
   cbv at q7
   replace q7 := q7.eq
   simp only [atI, vem, veq, ne_eq, cmpI, arI, dvI, shI, SV.den] at q7
   have qy900 := hUq.y 900 (selE)
   cbv at qy900
   replace qy900 := qy900.eq
   simp only [atY, convL_self, vem, veq, ne_eq, cmpI, arI, dvI, shI, SV.den] at qy900
   clear hUq hR1
   try dsimp only [Shp.D, Shp.Ds, Shp.dflt] at *
   try simp only [vem, veq, ne_eq, cmpI, arI, dvI, shI, SV.den, elemAt, convL_self] at *
   try dsimp only [Shp.D, Shp.Ds, Shp.dflt, Shp.dflts] at *
   rw [← qy900]
   simp only [List.length_append, List.length_cons, List.length_nil]
   refine ⟨⟨by omega, by omega, by omega, fun s hs => ?_⟩, by omega⟩
   rcases List.mem_append.1 hs with hs | hs
   ·exact p4 s hs
   ·rw [List.mem_singleton] at hs
    subst hs
    exact hx.1
  all_goals first
   | (((try dsimp only [Shp.D, Shp.Ds, Shp.dflt] at *); simp only [vem, veq, ne_eq, cmpI, arI, dvI, shI, SV.den, obLt, elemAt, obApp, partL, obPart, lowD, highD, mxOk, convL_self, zerosB, List.length_replicate, vln] at *; (try dsimp only [Shp.D, Shp.Ds, Shp.dflt, Shp.dflts] at *)) <;> (try simp only [Shp.lims, Shp.lim, IntKind.wrap_u64, IntKind.wrap_u8] at *) <;> omega)
   | skip
  all_goals (try dsimp only [Shp.D, Shp.Ds, Shp.dflt] at *); simp only [vem, veq, ne_eq, cmpI, arI, dvI, shI, SV.den, obLt, elemAt, obApp, partL, obPart, lowD, highD, mxOk, convL_self, zerosB, List.length_replicate, vln] at *; (try dsimp only [Shp.D, Shp.Ds, Shp.dflt, Shp.dflts] at *)
  all_goals first
   | exact .inr trivial
   | exact .inl trivial
   | exact ⟨by omega, by omega, _, .inr rfl, p4⟩
   | exact ⟨by omega, by omega, _, .inl rfl, p4⟩
end Go.Proofs.Ytbdfijdianaghaa.V
