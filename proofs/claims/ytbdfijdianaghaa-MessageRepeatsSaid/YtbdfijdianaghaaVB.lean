/- Contracts: addresses. -/
import Derived.Test.YtbdfijdianaghaaVA
import Derived.Test.YtbdfijdianaghaaBits
import Derived.Test.YtbdfijdianaghaaSelPlain
set_option linter.unusedVariables false
set_option linter.unusedSimpArgs false
namespace Go.Proofs.Ytbdfijdianaghaa.V
open Go.RowKit
set_option maxHeartbeats 8000000
set_option maxRecDepth 100000
def abits (f : Int) : Nat := if f = 4 then 32 else 128
def pL (f : Int) (H L m : Nat) : Adr := ⟨f, cl H (m - 64) 0, cl L (min m 64) 0⟩
def pH (f : Int) (H L m : Nat) : Adr := ⟨f, Go.Proofs.Ytbdfijdianaghaa.st H (m - 64) 0, Go.Proofs.Ytbdfijdianaghaa.st L (min m 64) 0⟩
theorem wrap_pow (e : Nat) (h : e < 64) : IntKind.u64.wrap ((2 : Int) ^ e) = ((2 ^ e : Nat) : Int) := by
 have h1 : 2 ^ e < 2 ^ 64 := Nat.pow_lt_pow_right (by decide) h
 have h2 : ((2 : Int) ^ e) = ((2 ^ e : Nat) : Int) := by push_cast; rfl
 rw [h2, IntKind.wrap_u64]
 generalize 2 ^ e = q at h1
 omega
structure AdrF (f : Int) (a : Adr) : Prop where
 fam : a.fam = f
 ok : a.ok
 val : valid a = true
theorem st_lt (x m t N : Nat) (ht : t ≤ m) (h : m ≤ N) (hx : x < 2 ^ N) : Go.Proofs.Ytbdfijdianaghaa.st x m t < 2 ^ N := by
 have h1 := (st_le x m t ht).2
 have hd : x / 2 ^ m < 2 ^ (N - m) := by
  rw [Nat.div_lt_iff_lt_mul (Nat.pow_pos (by decide)), ← Nat.pow_add, show N - m + m = N by omega]; exact hx
 have he : 2 ^ N = 2 ^ m * 2 ^ (N - m) := by rw [← Nat.pow_add, show m + (N - m) = N by omega]
 have h2 : 2 ^ m * (x / 2 ^ m) + 2 ^ m ≤ 2 ^ N := by
  rw [he, ← Nat.mul_succ]
  exact Nat.mul_le_mul_left _ hd
 omega
theorem pfx_ok (f : Int) (H L m : Nat) (h : AdrF f ⟨f, H, L⟩) (hm : m ≤ abits f) : AdrF f (pL f H L m) ∧ AdrF f (pH f H L m) ∧ key (pL f H L m) ≤ key (pH f H L m) := by
 have hb : abits f ≤ 128 := by unfold abits; split <;> omega
 have h1 := h.ok.f0; have h2 := h.ok.f1
 have h3 : (H : Int) ≤ 18446744073709551615 := h.ok.h1
 have h4 : (L : Int) ≤ 18446744073709551615 := h.ok.l1
 have a1 := cl_lt H (m - 64) 0 (Nat.zero_le _)
 have a2 := cl_lt L (min m 64) 0 (Nat.zero_le _)
 have b1 := (st_le H (m - 64) 0 (Nat.zero_le _)).1
 have b2 := (st_le L (min m 64) 0 (Nat.zero_le _)).1
 have c1 := st_lt H (m - 64) 0 64 (Nat.zero_le _) (by omega) (by omega)
 have c2 := st_lt L (min m 64) 0 64 (Nat.zero_le _) (by omega) (by omega)
 have hv := h.val
 simp only [valid, Bool.or_eq_true, Bool.and_eq_true, decide_eq_true_eq] at hv
 have d1 : f ≠ 6 → (f = 4 ∧ H = 0 ∧ L < 4294967296) := by omega
 have d2 : f ≠ 6 → Go.Proofs.Ytbdfijdianaghaa.st H (m - 64) 0 = 0 ∧ Go.Proofs.Ytbdfijdianaghaa.st L (min m 64) 0 < 4294967296 := by
  intro h6
  obtain ⟨rfl, rfl, hl⟩ := d1 h6
  have : abits 4 = 32 := rfl
  have e : m - 64 = 0 := by omega
  refine ⟨by rw [e]; rfl, ?_⟩
  exact st_lt L (min m 64) 0 32 (Nat.zero_le _) (by omega) (by omega)
 refine ⟨⟨rfl, ⟨h1, h2, ?_, ?_, ?_, ?_⟩, ?_⟩, ⟨rfl, ⟨h1, h2, ?_, ?_, ?_, ?_⟩, ?_⟩, ?_⟩
 case refine_5 | refine_10 =>
  by_cases h6 : f = 6
  ·simp [valid, pL, pH, h6]
  ·obtain ⟨e1, e2, e3⟩ := d1 h6
   obtain ⟨e4, e5⟩ := d2 h6
   subst e1 e2
   have z : cl 0 (m - 64) 0 = 0 := by simp [cl]
   simp only [pL, pH, valid, z, e4]
   simp
   omega
 all_goals simp only [pL, pH, key]
 all_goals omega
theorem span_all (f : Int) (hf : f = 4 ∨ f = 6) : AdrF f (pL f 0 0 (abits f)) ∧ AdrF f (pH f 0 0 (abits f)) ∧ key (pL f 0 0 (abits f)) ≤ key (pH f 0 0 (abits f)) := by
 rcases hf with rfl | rfl
 ·exact pfx_ok 4 0 0 (abits 4) ⟨rfl, ⟨by decide, by decide, by decide, by decide, by decide, by decide⟩, rfl⟩ (Nat.le_refl _)
 ·exact pfx_ok 6 0 0 (abits 6) ⟨rfl, ⟨by decide, by decide, by decide, by decide, by decide, by decide⟩, rfl⟩ (Nat.le_refl _)
abbrev adrE : Shp := .st [.int .i64, .int .u64, .int .u64]
abbrev AdrT : Type := Int × Int × Int × Unit
abbrev SelT : Type := Int × Int × Int × AdrT × AdrT × Unit
def toAdr (a : AdrT) : Adr := ⟨a.1, a.2.1, a.2.2.1⟩
abbrev selE : Shp := .st [.int .i64, .int .i64, .int .i64, adrE, adrE]
def toSel (s : SelT) : Sel := ⟨s.1, s.2.1, s.2.2.1, toAdr s.2.2.2.1, toAdr s.2.2.2.2.1⟩
def noC_t : SpecT := fun _ => none
def noC : Cx := ⟨tt, qt, bt, st, noC_t, 0, 1000000000000000, fun _ => none, false, CxE.no, []⟩
theorem noC_si {E : Env} (h : E.ok) : SpecsOk Try.prog E (CxE.no) noC_t (fun _ => none) := ⟨(fun t f h => by cases h), noI_ok _ _ _⟩
theorem noC_x {E : Env} (h : E.ok) : CxEOk Try.prog E (CxE.no) := CxE.no_ok _ _
theorem noC_cx (E : Env) (h : E.ok) (h1 : E.lo = 0) (h2 : E.hi = 1000000000000000) : Cx.ok noC Try.prog E := ⟨tt_ok, qt_ok, bt_ok, noC_si h, h, h1, h2, mixed_ok, noC_x h⟩
theorem noC_from (lo hi : Nat) (E : Env) (h : E.ok) (h1 : E.lo = lo) (h2 : E.hi = hi) : Cx.ok (Cx.from noC lo hi) Try.prog E := ⟨tt_ok, qt_ok, bt_ok, noC_si h, h, h1, h2, mixed_ok, noC_x h⟩
theorem rvalid_fn : hasFn Try.prog 86 := ⟨_, Try.func86, by rfl, by rfl⟩
theorem rvalid_sp {E : Env} (hE : E.ok) : SpecOk Try.prog E 86 (fnSpec [adrE] [.bool] [] (fun _ => True) fun x y => y.1 = valid (toAdr x.1)) := by
 refine spec_of_vc (C := noC) rvalid_fn Try.func86 (by kernel_rfl) noC_cx (fun x hl hx => ?_) hE
 obtain ⟨⟨f, h, l, u⟩, u'⟩ := x
 cbv
 (repeat' (first | ((with_reducible apply And.intro <;> intro h) <;> (first | with_reducible exact (tf h (by assumption)).elim | with_reducible exact (tf (by assumption) h).elim | cbv)) | ((with_reducible first | refine Cb.mk ?_ | refine Lz.mk ?_ | refine JoinT.left ?_ | (apply AllT.mk; intro x hx)); cbv) | ((with_reducible refine Ob.mk (fun _ => ?_) ?_); rotate_left 1) | (with_reducible first | refine Mg.mk (Exists.intro ?_ (And.intro ?_ ?_)) | rfl | refine Fin.mk ?_ | exact True.intro | refine And.intro ?_ ?_)))
 all_goals ((try dsimp only [Shp.D, Shp.Ds, Shp.dflt] at *); simp only [vem, veq, ne_eq, cmpI, arI, dvI, shI, SV.den, obLt, elemAt, obApp, partL, obPart, lowD, highD, mxOk, convL_self, zerosB, List.length_replicate, vln] at *; (try dsimp only [Shp.D, Shp.Ds, Shp.dflt, Shp.dflts] at *); simp [valid, toAdr, *])
 all_goals first | rfl | (by_cases h6 : f = 6 <;> simp [*]) | skip
 all_goals trace_state
theorem bits_fn : hasFn Try.prog 87 := ⟨_, Try.func87, by rfl, by rfl⟩
theorem bits_sp {E : Env} (hE : E.ok) : SpecOk Try.prog E 87 (fnSpec [.int .i64] [.int .i64] [] (fun _ => True) fun x y => y.1 = (abits x.1 : Int)) := by
 refine spec_of_vc (C := noC) bits_fn Try.func87 (by kernel_rfl) noC_cx (fun x hl hx => ?_) hE
 obtain ⟨f, u'⟩ := x
 cbv
 (repeat' (first | ((with_reducible apply And.intro <;> intro h) <;> (first | with_reducible exact (tf h (by assumption)).elim | with_reducible exact (tf (by assumption) h).elim | cbv)) | ((with_reducible first | refine Cb.mk ?_ | refine Lz.mk ?_ | refine JoinT.left ?_ | (apply AllT.mk; intro x hx)); cbv) | ((with_reducible refine Ob.mk (fun _ => ?_) ?_); rotate_left 1) | (with_reducible first | refine Mg.mk (Exists.intro ?_ (And.intro ?_ ?_)) | rfl | refine Fin.mk ?_ | exact True.intro | refine And.intro ?_ ?_)))
 all_goals ((try dsimp only [Shp.D, Shp.Ds, Shp.dflt] at *); simp only [vem, veq, ne_eq, cmpI, arI, dvI, shI, SV.den, obLt, elemAt, obApp, partL, obPart, lowD, highD, mxOk, convL_self, zerosB, List.length_replicate, vln] at *; (try dsimp only [Shp.D, Shp.Ds, Shp.dflt, Shp.dflts] at *); simp [abits, *])
def pfC_t : SpecT := nd0 87 (lf0 86 (fnSpec [adrE] [.bool] [] (fun _ => True) (fun x y => y.1 = valid (toAdr x.1)))) (lf0 87 (fnSpec [.int .i64] [.int .i64] [] (fun _ => True) (fun x y => y.1 = (abits x.1 : Int))))
def pfC : Cx := ⟨tt, qt, bt, st, pfC_t, 0, 1000000000000000, fun _ => none, false, CxE.no, []⟩
theorem pfC_si {E : Env} (h : E.ok) : SpecsOk Try.prog E (CxE.no) pfC_t (fun _ => none) := ⟨(nd0_ok (lf0_ok (.inl (rvalid_sp h))) (lf0_ok (.inl (bits_sp h)))), noI_ok _ _ _⟩
theorem pfC_x {E : Env} (h : E.ok) : CxEOk Try.prog E (CxE.no) := CxE.no_ok _ _
theorem pfC_cx (E : Env) (h : E.ok) (h1 : E.lo = 0) (h2 : E.hi = 1000000000000000) : Cx.ok pfC Try.prog E := ⟨tt_ok, qt_ok, bt_ok, pfC_si h, h, h1, h2, mixed_ok, pfC_x h⟩
theorem pfC_from (lo hi : Nat) (E : Env) (h : E.ok) (h1 : E.lo = lo) (h2 : E.hi = hi) : Cx.ok (Cx.from pfC lo hi) Try.prog E := ⟨tt_ok, qt_ok, bt_ok, pfC_si h, h, h1, h2, mixed_ok, pfC_x h⟩
theorem prefix_fn : hasFn Try.prog 72 := ⟨_, Try.func72, by rfl, by rfl⟩
abbrev pfxPre : Shp.Ds [adrE, .int .i64] → Prop := fun x => AdrF x.1.1 (toAdr x.1) ∧ 0 ≤ x.2.1 ∧ x.2.1 ≤ abits x.1.1
structure SpanP (f : Int) (a b : Adr) : Prop where
 lo : AdrF f a
 hi : AdrF f b
 le : key a ≤ key b
abbrev pfxPost : Shp.Ds [adrE, .int .i64] → Shp.Ds [adrE, adrE, .int .i64] → Prop := fun x y => SpanP x.1.1 (toAdr y.1) (toAdr y.2.1) ∧ y.2.2.1 = 0
theorem pf_exp1 (B k : Nat) (hk : k < B) (hB : B ≤ 128) (h64 : 64 ≤ B - 1 - k) : min (IntKind.u64.wrap (((((B : Int) - 1 + 9223372036854775808) % 18446744073709551616 - 9223372036854775808 - (k : Int) + 9223372036854775808) % 18446744073709551616 - 9223372036854775808 - 64 + 9223372036854775808) % 18446744073709551616 - 9223372036854775808)).toNat IntKind.u64.bits = B - 1 - k - 64 := by
 rw [IntKind.wrap_u64]
 show min _ 64 = _
 omega
theorem pf_exp2 (B k : Nat) (hk : k < B) (hB : B ≤ 128) (h64 : B - 1 - k < 64) : min (IntKind.u64.wrap ((((B : Int) - 1 + 9223372036854775808) % 18446744073709551616 - 9223372036854775808 - (k : Int) + 9223372036854775808) % 18446744073709551616 - 9223372036854775808)).toNat IntKind.u64.bits = B - 1 - k := by
 rw [IntKind.wrap_u64]
 show min _ 64 = _
 omega
theorem prefix_sp {E : Env} (hE : E.ok) : SpecOk Try.prog E 72 (fnSpec [adrE, .int .i64] [adrE, adrE, .int .i64] [] pfxPre pfxPost) := by
 refine spec_of_vc (C := pfC) prefix_fn Try.func72 (by kernel_rfl) pfC_cx (fun x hl hx => ?_) hE
 obtain ⟨⟨f, h, l, u⟩, n, u'⟩ := x
 obtain ⟨hA, hn0, hn1⟩ := hx
 dsimp only [Shp.D, Shp.Ds] at hA hn0 hn1
 obtain ⟨H, rfl⟩ := Int.eq_ofNat_of_zero_le (show 0 ≤ h from hA.ok.h0)
 obtain ⟨L, rfl⟩ := Int.eq_ofNat_of_zero_le (show 0 ≤ l from hA.ok.l0)
 obtain ⟨m, rfl⟩ := Int.eq_ofNat_of_zero_le hn0
 have hH : (H : Int) ≤ 18446744073709551615 := hA.ok.h1
 have hL : (L : Int) ≤ 18446744073709551615 := hA.ok.l1
 have hB : abits f ≤ 128 := by unfold abits; split <;> omega
 obtain ⟨B, hBe⟩ : ∃ B, B = abits f := ⟨_, rfl⟩
 rw [← hBe] at hn1 hB
 cbv
 (repeat' (first | ((with_reducible apply And.intro <;> intro h) <;> (first | with_reducible exact (tf h (by assumption)).elim | with_reducible exact (tf (by assumption) h).elim | cbv)) | ((with_reducible first | refine Cb.mk ?_ | refine Lz.mk ?_ | refine JoinT.left ?_ | (apply AllT.mk; intro x hx)); cbv) | ((with_reducible refine Ob.mk (fun _ => ?_) ?_); rotate_left 1) | (with_reducible first | refine Mg.mk (Exists.intro ?_ (And.intro ?_ ?_)) | rfl | refine Fin.mk ?_ | exact True.intro | refine And.intro ?_ ?_)))
 all_goals first
  | (exfalso; (try dsimp only [Shp.D, Shp.Ds, Shp.dflt] at *); simp only [vem, veq, ne_eq, cmpI, arI, dvI, shI, SV.den, obLt, elemAt, obApp, partL, obPart, lowD, highD, mxOk, convL_self, zerosB, List.length_replicate, vln] at *; (try dsimp only [Shp.D, Shp.Ds, Shp.dflt, Shp.dflts] at *); obtain ⟨hx, _⟩ := hx; rw [hA.val] at hx; simp_all; done)
  | (((try dsimp only [Shp.D, Shp.Ds, Shp.dflt] at *); simp only [vem, veq, ne_eq, cmpI, arI, dvI, shI, SV.den, obLt, elemAt, obApp, partL, obPart, lowD, highD, mxOk, convL_self, zerosB, List.length_replicate, vln] at *; (try dsimp only [Shp.D, Shp.Ds, Shp.dflt, Shp.dflts] at *)) <;> (try simp only [Shp.lims, Shp.lim, IntKind.wrap_u64, IntKind.wrap_u8] at *) <;> omega)
  | skip
 with_reducible refine loop_hv [] (10 :: rangeN 30 45) [2152, 2216] [] (fun z b t y => ∃ k : Nat, z 9 = k ∧ m ≤ k ∧ k ≤ B ∧ z 141824 = f ∧ z 145920 = f ∧ z 141825 = cl H (B - m - 64) (B - k - 64) ∧ z 141826 = cl L (min (B - m) 64) (min (B - k) 64) ∧ z 145921 = Go.Proofs.Ytbdfijdianaghaa.st H (B - m - 64) (B - k - 64) ∧ z 145922 = Go.Proofs.Ytbdfijdianaghaa.st L (min (B - m) 64) (min (B - k) 64)) (fun z b t y => ((B : Int) - z 9).toNat) (by cbv) (by cbv) ?_ ?_ (fun z1 b1 t1 u1 y1 R1 hP1 hR1 => ?_)
 ·refine EndOk.mk (by cbv) (by cbv) (by cbv; repeat' (first | exact True.intro | exact rfl | with_reducible refine And.intro ?_ ?_)) (by cbv; repeat' (first | exact True.intro | exact rfl | with_reducible refine And.intro ?_ ?_)) (by cbv; repeat' (first | exact True.intro | exact rfl | with_reducible refine And.intro ?_ ?_))
 ·intro zq bq tq yq hUq
  have q9 := hUq.z 9
  cbv at q9
  replace q9 := q9.eq
  simp only [atI, vem, veq, ne_eq, cmpI, arI, dvI, shI, SV.den] at q9
  have q141824 := hUq.z 141824
  cbv at q141824
  replace q141824 := q141824.eq
  simp only [atI, vem, veq, ne_eq, cmpI, arI, dvI, shI, SV.den] at q141824
  have q141825 := hUq.z 141825
  cbv at q141825
  replace q141825 := q141825.eq
  simp only [atI, vem, veq, ne_eq, cmpI, arI, dvI, shI, SV.den] at q141825
  have q141826 := hUq.z 141826
  cbv at q141826
  replace q141826 := q141826.eq
  simp only [atI, vem, veq, ne_eq, cmpI, arI, dvI, shI, SV.den] at q141826
  have q145920 := hUq.z 145920
  cbv at q145920
  replace q145920 := q145920.eq
  simp only [atI, vem, veq, ne_eq, cmpI, arI, dvI, shI, SV.den] at q145920
  have q145921 := hUq.z 145921
  cbv at q145921
  replace q145921 := q145921.eq
  simp only [atI, vem, veq, ne_eq, cmpI, arI, dvI, shI, SV.den] at q145921
  have q145922 := hUq.z 145922
  cbv at q145922
  replace q145922 := q145922.eq
  simp only [atI, vem, veq, ne_eq, cmpI, arI, dvI, shI, SV.den] at q145922
  clear hUq
  try dsimp only [Shp.D, Shp.Ds, Shp.dflt] at *
  try simp only [vem, veq, ne_eq, cmpI, arI, dvI, shI, SV.den, convL_self] at *
  exact ⟨m, q9.symm, Nat.le_refl _, by omega, q141824.symm, q145920.symm, by rw [cl_full]; exact q141825.symm, by rw [cl_full]; exact q141826.symm, by rw [st_full]; exact q145921.symm, by rw [st_full]; exact q145922.symm⟩
 obtain ⟨k, p9, p1, p2, p3, p4, p5, p6, p7, p8⟩ := hP1
 cbv
 (repeat' (first | ((with_reducible apply And.intro <;> intro h) <;> (first | with_reducible exact (tf h (by assumption)).elim | with_reducible exact (tf (by assumption) h).elim | cbv)) | ((with_reducible first | refine Cb.mk ?_ | refine Lz.mk ?_ | refine JoinT.left ?_ | (apply AllT.mk; intro x hx)); cbv) | ((with_reducible refine Ob.mk (fun _ => ?_) ?_); rotate_left 1) | (with_reducible first | refine Mg.mk (Exists.intro ?_ (And.intro ?_ ?_)) | rfl | refine Fin.mk ?_ | exact True.intro | refine And.intro ?_ ?_)))
 all_goals first | (with_reducible show Goes _ _ _ _; skip) | (clear hR1)
 ·with_reducible refine hR1 _ ?_ (fun zq bq tq yq hUq => ?_)
  ·refine EndOk.mk (by cbv) (by cbv) (by cbv; repeat' (first | exact True.intro | exact rfl | with_reducible refine And.intro ?_ ?_)) (by cbv; repeat' (first | exact True.intro | exact rfl | with_reducible refine And.intro ?_ ?_)) (by cbv; repeat' (first | exact True.intro | exact rfl | with_reducible refine And.intro ?_ ?_))
  have q9 := hUq.z 9
  cbv at q9
  replace q9 := q9.eq
  simp only [atI, vem, veq, ne_eq, cmpI, arI, dvI, shI, SV.den] at q9
  have q141824 := hUq.z 141824
  cbv at q141824
  replace q141824 := q141824.eq
  simp only [atI, vem, veq, ne_eq, cmpI, arI, dvI, shI, SV.den] at q141824
  have q141825 := hUq.z 141825
  cbv at q141825
  replace q141825 := q141825.eq
  simp only [atI, vem, veq, ne_eq, cmpI, arI, dvI, shI, SV.den] at q141825
  have q141826 := hUq.z 141826
  cbv at q141826
  replace q141826 := q141826.eq
  simp only [atI, vem, veq, ne_eq, cmpI, arI, dvI, shI, SV.den] at q141826
  have q145920 := hUq.z 145920
  cbv at q145920
  replace q145920 := q145920.eq
  simp only [atI, vem, veq, ne_eq, cmpI, arI, dvI, shI, SV.den] at q145920
  have q145921 := hUq.z 145921
  cbv at q145921
  replace q145921 := q145921.eq
  simp only [atI, vem, veq, ne_eq, cmpI, arI, dvI, shI, SV.den] at q145921
  have q145922 := hUq.z 145922
  cbv at q145922
  replace q145922 := q145922.eq
  simp only [atI, vem, veq, ne_eq, cmpI, arI, dvI, shI, SV.den] at q145922
  clear hUq hR1
  try dsimp only [Shp.D, Shp.Ds, Shp.dflt] at *
  try simp only [vem, veq, ne_eq, cmpI, arI, dvI, shI, SV.den, elemAt, convL_self] at *
  try dsimp only [Shp.D, Shp.Ds, Shp.dflt, Shp.dflts] at *
  rw [hx.1, ← hBe, p9] at h q141825 q145921
  rename_i hlt _ _
  have hlt' : k < B := by have := ‹z1 9 < _›; simp_all
  have h64 : 64 ≤ B - 1 - k := by omega
  rw [pf_exp1 B k hlt' hB h64, Int.one_mul, wrap_pow _ (by omega)] at q141825 q145921
  rw [p5, show B - k - 64 = (B - 1 - k - 64) + 1 by omega, cl_step H _ _ (by omega) (by omega) (by omega)] at q141825
  rw [p7, show B - k - 64 = (B - 1 - k - 64) + 1 by omega, st_step H _ _ (by omega) (by omega) (by omega)] at q145921
  refine ⟨⟨k + 1, by omega, by omega, by omega, by rw [← q141824, p3], by rw [← q145920, p4], ?_, ?_, ?_, ?_⟩, by omega⟩
  ·rw [← q141825, show B - 1 - k - 64 = B - (k + 1) - 64 by omega]
  ·rw [← q141826, p6, show min (B - k) 64 = min (B - (k + 1)) 64 by omega]
  ·rw [← q145921, show B - 1 - k - 64 = B - (k + 1) - 64 by omega]
  ·rw [← q145922, p8, show min (B - k) 64 = min (B - (k + 1)) 64 by omega]
 rotate_left 2
 ·with_reducible refine hR1 _ ?_ (fun zq bq tq yq hUq => ?_)
  ·refine EndOk.mk (by cbv) (by cbv) (by cbv; repeat' (first | exact True.intro | exact rfl | with_reducible refine And.intro ?_ ?_)) (by cbv; repeat' (first | exact True.intro | exact rfl | with_reducible refine And.intro ?_ ?_)) (by cbv; repeat' (first | exact True.intro | exact rfl | with_reducible refine And.intro ?_ ?_))
  have q9 := hUq.z 9
  cbv at q9
  replace q9 := q9.eq
  simp only [atI, vem, veq, ne_eq, cmpI, arI, dvI, shI, SV.den] at q9
  have q141824 := hUq.z 141824
  cbv at q141824
  replace q141824 := q141824.eq
  simp only [atI, vem, veq, ne_eq, cmpI, arI, dvI, shI, SV.den] at q141824
  have q141825 := hUq.z 141825
  cbv at q141825
  replace q141825 := q141825.eq
  simp only [atI, vem, veq, ne_eq, cmpI, arI, dvI, shI, SV.den] at q141825
  have q141826 := hUq.z 141826
  cbv at q141826
  replace q141826 := q141826.eq
  simp only [atI, vem, veq, ne_eq, cmpI, arI, dvI, shI, SV.den] at q141826
  have q145920 := hUq.z 145920
  cbv at q145920
  replace q145920 := q145920.eq
  simp only [atI, vem, veq, ne_eq, cmpI, arI, dvI, shI, SV.den] at q145920
  have q145921 := hUq.z 145921
  cbv at q145921
  replace q145921 := q145921.eq
  simp only [atI, vem, veq, ne_eq, cmpI, arI, dvI, shI, SV.den] at q145921
  have q145922 := hUq.z 145922
  cbv at q145922
  replace q145922 := q145922.eq
  simp only [atI, vem, veq, ne_eq, cmpI, arI, dvI, shI, SV.den] at q145922
  clear hUq hR1
  try dsimp only [Shp.D, Shp.Ds, Shp.dflt] at *
  try simp only [vem, veq, ne_eq, cmpI, arI, dvI, shI, SV.den, elemAt, convL_self] at *
  try dsimp only [Shp.D, Shp.Ds, Shp.dflt, Shp.dflts] at *
  rw [hx.1, ← hBe, p9] at h q141826 q145922
  have hlt' : k < B := by have := ‹z1 9 < _›; simp_all
  have h64 : B - 1 - k < 64 := by omega
  rw [pf_exp2 B k hlt' hB h64, Int.one_mul, wrap_pow _ (by omega)] at q141826 q145922
  rw [p6, show min (B - k) 64 = (B - 1 - k) + 1 by omega, cl_step L _ _ (by omega) (by omega) (by omega)] at q141826
  rw [p8, show min (B - k) 64 = (B - 1 - k) + 1 by omega, st_step L _ _ (by omega) (by omega) (by omega)] at q145922
  refine ⟨⟨k + 1, by omega, by omega, by omega, by rw [← q141824, p3], by rw [← q145920, p4], ?_, ?_, ?_, ?_⟩, by omega⟩
  ·rw [← q141825, p5, show B - k - 64 = B - (k + 1) - 64 by omega]
  ·rw [← q141826, show B - 1 - k = min (B - (k + 1)) 64 by omega]
  ·rw [← q145921, p7, show B - k - 64 = B - (k + 1) - 64 by omega]
  ·rw [← q145922, show B - 1 - k = min (B - (k + 1)) 64 by omega]
 all_goals first
  | (((try dsimp only [Shp.D, Shp.Ds, Shp.dflt] at *); simp only [vem, veq, ne_eq, cmpI, arI, dvI, shI, SV.den, obLt, elemAt, obApp, partL, obPart, lowD, highD, mxOk, convL_self, zerosB, List.length_replicate, vln] at *; (try dsimp only [Shp.D, Shp.Ds, Shp.dflt, Shp.dflts] at *)) <;> (try simp only [Shp.lims, Shp.lim, IntKind.wrap_u64, IntKind.wrap_u8] at *) <;> omega)
  | skip
 (try dsimp only [Shp.D, Shp.Ds, Shp.dflt] at *); simp only [vem, veq, ne_eq, cmpI, arI, dvI, shI, SV.den, obLt, elemAt, obApp, partL, obPart, lowD, highD, mxOk, convL_self, zerosB, List.length_replicate, vln] at *; (try dsimp only [Shp.D, Shp.Ds, Shp.dflt, Shp.dflts] at *)
 have hkB : k = B := by
  have := ‹¬z1 9 < _›
  rw [hx.1, ← hBe, p9] at this
  omega
 subst hkB
 have := pfx_ok f H L (k - m) hA (by omega)
 simp only [Nat.sub_self, Nat.zero_sub, Nat.zero_min, Nat.min_zero] at p5 p6 p7 p8
 simp only [toAdr, p3, p4, p5, p6, p7, p8]
 exact ⟨this.1, this.2.1, this.2.2⟩
end Go.Proofs.Ytbdfijdianaghaa.V
