import Derived.Test.YtkifmppmfkpfbaaGreatW18
import Derived.Test.YtkifmppmfkpfbaaGreatW08
import Derived.Test.YtkifmppmfkpfbaaGreatW17
set_option linter.unusedVariables false
set_option linter.unusedSimpArgs false
namespace Go.Proofs.YtkifmppmfkpfbaaGreat.V
open Go.RowKit
section
set_option maxHeartbeats 8000000
set_option maxRecDepth 100000
def abits (f : Int) : Nat := if f = 4 then 32 else 128
def pL (f : Int) (H L m : Nat) : Adr := ⟨f, cl H (m - 64) 0, cl L (min m 64) 0⟩
def pH (f : Int) (H L m : Nat) : Adr := ⟨f, Go.Proofs.YtkifmppmfkpfbaaGreat.st H (m - 64) 0, Go.Proofs.YtkifmppmfkpfbaaGreat.st L (min m 64) 0⟩
theorem wrap_pow (e : Nat) (h : e < 64) : IntKind.u64.wrap ((2 : Int) ^ e) = ((2 ^ e : Nat) : Int) := by
 have h1 : 2 ^ e < 2 ^ 64 := Nat.pow_lt_pow_right (by decide) h
 have h2 : ((2 : Int) ^ e) = ((2 ^ e : Nat) : Int) := by push_cast; rfl
 rw [h2, IntKind.wrap_u64]
 generalize 2 ^ e = q at h1
 omega
structure AdrF (f : Int) (a : Adr) : Prop where
 fam : a.fam = f
 ok : a.ok
 val : valid a = true
theorem st_lt (x m t N : Nat) (ht : t ≤ m) (h : m ≤ N) (hx : x < 2 ^ N) : Go.Proofs.YtkifmppmfkpfbaaGreat.st x m t < 2 ^ N := by
 have h1 := (st_le x m t ht).2
 have hd : x / 2 ^ m < 2 ^ (N - m) := by
  rw [Nat.div_lt_iff_lt_mul (Nat.pow_pos (by decide)), ← Nat.pow_add, show N - m + m = N by omega]; exact hx
 have he : 2 ^ N = 2 ^ m * 2 ^ (N - m) := by rw [← Nat.pow_add, show m + (N - m) = N by omega]
 have h2 : 2 ^ m * (x / 2 ^ m) + 2 ^ m ≤ 2 ^ N := by
  rw [he, ← Nat.mul_succ]
  exact Nat.mul_le_mul_left _ hd
 omega
theorem pfx_ok (f : Int) (H L m : Nat) (h : AdrF f ⟨f, H, L⟩) (hm : m ≤ abits f) : AdrF f (pL f H L m) ∧ AdrF f (pH f H L m) ∧ key (pL f H L m) ≤ key (pH f H L m) := by
 have hb : abits f ≤ 128 := by unfold abits; split <;> omega
 have h1 := h.ok.f0; have h2 := h.ok.f1
 have h3 : (H : Int) ≤ 18446744073709551615 := h.ok.h1
 have h4 : (L : Int) ≤ 18446744073709551615 := h.ok.l1
 have a1 := cl_lt H (m - 64) 0 (Nat.zero_le _)
 have a2 := cl_lt L (min m 64) 0 (Nat.zero_le _)
 have b1 := (st_le H (m - 64) 0 (Nat.zero_le _)).1
 have b2 := (st_le L (min m 64) 0 (Nat.zero_le _)).1
 have c1 := st_lt H (m - 64) 0 64 (Nat.zero_le _) (by omega) (by omega)
 have c2 := st_lt L (min m 64) 0 64 (Nat.zero_le _) (by omega) (by omega)
 have hv := h.val
 simp only [valid, Bool.or_eq_true, Bool.and_eq_true, decide_eq_true_eq] at hv
 have d1 : f ≠ 6 → (f = 4 ∧ H = 0 ∧ L < 4294967296) := by omega
 have d2 : f ≠ 6 → Go.Proofs.YtkifmppmfkpfbaaGreat.st H (m - 64) 0 = 0 ∧ Go.Proofs.YtkifmppmfkpfbaaGreat.st L (min m 64) 0 < 4294967296 := by
  intro h6
  obtain ⟨rfl, rfl, hl⟩ := d1 h6
  have : abits 4 = 32 := rfl
  have e : m - 64 = 0 := by omega
  refine ⟨by rw [e]; rfl, ?_⟩
  exact st_lt L (min m 64) 0 32 (Nat.zero_le _) (by omega) (by omega)
 refine ⟨⟨rfl, ⟨h1, h2, ?_, ?_, ?_, ?_⟩, ?_⟩, ⟨rfl, ⟨h1, h2, ?_, ?_, ?_, ?_⟩, ?_⟩, ?_⟩
 case refine_5 | refine_10 =>
  by_cases h6 : f = 6
  ·simp [valid, pL, pH, h6]
  ·obtain ⟨e1, e2, e3⟩ := d1 h6
   obtain ⟨e4, e5⟩ := d2 h6
   subst e1 e2
   have z : cl 0 (m - 64) 0 = 0 := by simp [cl]
   simp only [pL, pH, valid, z, e4]
   simp
   omega
 all_goals simp only [pL, pH, key]
 all_goals omega
abbrev adrE : Shp := .st [.int .i64, .int .u64, .int .u64]
abbrev AdrT : Type := Int × Int × Int × Unit
abbrev SelT : Type := Int × Int × Int × AdrT × AdrT × Unit
def toAdr (a : AdrT) : Adr := ⟨a.1, a.2.1, a.2.2.1⟩
abbrev selE : Shp := .st [.int .i64, .int .i64, .int .i64, adrE, adrE]
def toSel (s : SelT) : Sel := ⟨s.1, s.2.1, s.2.2.1, toAdr s.2.2.2.1, toAdr s.2.2.2.2.1⟩
def noC_t : SpecT := fun _ => none
def noC : Cx := ⟨tt, qt, bt, st, noC_t, 0, 1000000000000000, fun _ => none, false, CxE.no, []⟩
theorem noC_si {E : Env} (h : E.ok) : SpecsOk Tryz.prog E (CxE.no) noC_t (fun _ => none) := ⟨(fun t f h => by cases h), noI_ok _ _ _⟩
theorem noC_x {E : Env} (h : E.ok) : CxEOk Tryz.prog E (CxE.no) := CxE.no_ok _ _
theorem noC_cx (E : Env) (h : E.ok) (h1 : E.lo = 0) (h2 : E.hi = 1000000000000000) : Cx.ok noC Tryz.prog E := ⟨tt_ok, qt_ok, bt_ok, noC_si h, h, h1, h2, mixed_ok, noC_x h⟩
theorem rvalid_fn : hasFn Tryz.prog 90 := ⟨_, Tryz.func90, by rfl, by rfl⟩
theorem rvalid_sp {E : Env} (hE : E.ok) : SpecOk Tryz.prog E 90 (fnSpec [adrE] [.bool] [] (fun _ => True) fun x y => y.1 = valid (toAdr x.1)) := by
 refine spec_of_vc (C := noC) rvalid_fn Tryz.func90 (by kernel_rfl) noC_cx (fun x hl hx => ?_) hE
 obtain ⟨⟨f, h, l, u⟩, u'⟩ := x
 cbv
 (repeat' (first|((with_reducible apply And.intro <;> intro h) <;> (first|(with_reducible first|exact (tf h ‹_›).elim|exact (tf ‹_› h).elim)|cbv))|((with_reducible first|apply Cb.mk|apply Lz.mk|apply JoinT.left|(apply AllT.mk;intro x hx));cbv)|((with_reducible refine Ob.mk (fun _ => ?_) ?_);rotate_left 1)|(with_reducible first|refine Mg.mk (Exists.intro ?_ (And.intro ?_ ?_))|rfl|apply Fin.mk|exact True.intro|apply And.intro)))
 all_goals ((try dsimp only [Shp.D, Shp.Ds, Shp.dflt] at *); simp only [vla, vem, veq, vln] at *; (try dsimp only [Shp.D, Shp.Ds, Shp.dflt, Shp.dflts] at *); simp [valid, toAdr, *])
 all_goals first | rfl | (by_cases h6 : f = 6 <;> simp [*]) | skip
 all_goals trace_state
theorem bits_fn : hasFn Tryz.prog 129 := ⟨_, Tryz.func129, by rfl, by rfl⟩
theorem bits_sp {E : Env} (hE : E.ok) : SpecOk Tryz.prog E 129 (fnSpec [.int .i64] [.int .i64] [] (fun _ => True) fun x y => y.1 = (abits x.1 : Int)) := by
 refine spec_of_vc (C := noC) bits_fn Tryz.func129 (by kernel_rfl) noC_cx (fun x hl hx => ?_) hE
 obtain ⟨f, u'⟩ := x
 cbv
 (repeat' (first|((with_reducible apply And.intro <;> intro h) <;> (first|(with_reducible first|exact (tf h ‹_›).elim|exact (tf ‹_› h).elim)|cbv))|((with_reducible first|apply Cb.mk|apply Lz.mk|apply JoinT.left|(apply AllT.mk;intro x hx));cbv)|((with_reducible refine Ob.mk (fun _ => ?_) ?_);rotate_left 1)|(with_reducible first|refine Mg.mk (Exists.intro ?_ (And.intro ?_ ?_))|rfl|apply Fin.mk|exact True.intro|apply And.intro)))
 all_goals ((try dsimp only [Shp.D, Shp.Ds, Shp.dflt] at *); simp only [vla, vem, veq, vln] at *; (try dsimp only [Shp.D, Shp.Ds, Shp.dflt, Shp.dflts] at *); simp [abits, *])
def pfC_t : SpecT := nd0 129 (lf0 90 (fnSpec [adrE] [.bool] [] (fun _ => True) (fun x y => y.1 = valid (toAdr x.1)))) (lf0 129 (fnSpec [.int .i64] [.int .i64] [] (fun _ => True) (fun x y => y.1 = (abits x.1 : Int))))
def pfC : Cx := ⟨tt, qt, bt, st, pfC_t, 0, 1000000000000000, fun _ => none, false, CxE.no, []⟩
theorem pfC_si {E : Env} (h : E.ok) : SpecsOk Tryz.prog E (CxE.no) pfC_t (fun _ => none) := ⟨(nd0_ok (lf0_ok (.inl (rvalid_sp h))) (lf0_ok (.inl (bits_sp h)))), noI_ok _ _ _⟩
theorem pfC_x {E : Env} (h : E.ok) : CxEOk Tryz.prog E (CxE.no) := CxE.no_ok _ _
theorem pfC_cx (E : Env) (h : E.ok) (h1 : E.lo = 0) (h2 : E.hi = 1000000000000000) : Cx.ok pfC Tryz.prog E := ⟨tt_ok, qt_ok, bt_ok, pfC_si h, h, h1, h2, mixed_ok, pfC_x h⟩
theorem prefix_fn : hasFn Tryz.prog 114 := ⟨_, Tryz.func114, by rfl, by rfl⟩
abbrev pfxPre : Shp.Ds [adrE, .int .i64] → Prop := fun x => AdrF x.1.1 (toAdr x.1) ∧ 0 ≤ x.2.1 ∧ x.2.1 ≤ abits x.1.1
structure SpanP (f : Int) (a b : Adr) : Prop where
 lo : AdrF f a
 hi : AdrF f b
 le : key a ≤ key b
abbrev pfxPost : Shp.Ds [adrE, .int .i64] → Shp.Ds [adrE, adrE, .int .i64] → Prop := fun x y => SpanP x.1.1 (toAdr y.1) (toAdr y.2.1) ∧ y.2.2.1 = 0
theorem pf_exp1 (B k : Nat) (hk : k < B) (hB : B ≤ 128) (h64 : 64 ≤ B - 1 - k) : min (IntKind.u64.wrap (((((B : Int) - 1 + 9223372036854775808) % 18446744073709551616 - 9223372036854775808 - (k : Int) + 9223372036854775808) % 18446744073709551616 - 9223372036854775808 - 64 + 9223372036854775808) % 18446744073709551616 - 9223372036854775808)).toNat IntKind.u64.bits = B - 1 - k - 64 := by
 rw [IntKind.wrap_u64]
 show min _ 64 = _
 omega
theorem pf_exp2 (B k : Nat) (hk : k < B) (hB : B ≤ 128) (h64 : B - 1 - k < 64) : min (IntKind.u64.wrap ((((B : Int) - 1 + 9223372036854775808) % 18446744073709551616 - 9223372036854775808 - (k : Int) + 9223372036854775808) % 18446744073709551616 - 9223372036854775808)).toNat IntKind.u64.bits = B - 1 - k := by
 rw [IntKind.wrap_u64]
 show min _ 64 = _
 omega
theorem prefix_sp {E : Env} (hE : E.ok) : SpecOk Tryz.prog E 114 (fnSpec [adrE, .int .i64] [adrE, adrE, .int .i64] [] pfxPre pfxPost) := by
 refine spec_of_vc (C := pfC) prefix_fn Tryz.func114 (by kernel_rfl) pfC_cx (fun x hl hx => ?_) hE
 obtain ⟨⟨f, h, l, u⟩, n, u'⟩ := x
 obtain ⟨hA, hn0, hn1⟩ := hx
 dsimp only [Shp.D, Shp.Ds] at hA hn0 hn1
 obtain ⟨H, rfl⟩ := Int.eq_ofNat_of_zero_le (show 0 ≤ h from hA.ok.h0)
 obtain ⟨L, rfl⟩ := Int.eq_ofNat_of_zero_le (show 0 ≤ l from hA.ok.l0)
 obtain ⟨m, rfl⟩ := Int.eq_ofNat_of_zero_le hn0
 have hH : (H : Int) ≤ 18446744073709551615 := hA.ok.h1
 have hL : (L : Int) ≤ 18446744073709551615 := hA.ok.l1
 have hB : abits f ≤ 128 := by unfold abits; split <;> omega
 obtain ⟨B, hBe⟩ : ∃ B, B = abits f := ⟨_, rfl⟩
 rw [← hBe] at hn1 hB
 cbv
 (repeat' (first|((with_reducible apply And.intro <;> intro h) <;> (first|(with_reducible first|exact (tf h ‹_›).elim|exact (tf ‹_› h).elim)|cbv))|((with_reducible first|apply Cb.mk|apply Lz.mk|apply JoinT.left|(apply AllT.mk;intro x hx));cbv)|((with_reducible refine Ob.mk (fun _ => ?_) ?_);rotate_left 1)|(with_reducible first|refine Mg.mk (Exists.intro ?_ (And.intro ?_ ?_))|rfl|apply Fin.mk|exact True.intro|apply And.intro)))
 all_goals first
  | (exfalso; (try dsimp only [Shp.D, Shp.Ds, Shp.dflt] at *); simp only [vla, vem, veq, vln] at *; (try dsimp only [Shp.D, Shp.Ds, Shp.dflt, Shp.dflts] at *); obtain ⟨hx, _⟩ := hx; rw [hA.val] at hx; simp_all; done)
  | (((try dsimp only [Shp.D, Shp.Ds, Shp.dflt] at *); simp only [vla, vem, veq, vln] at *; (try dsimp only [Shp.D, Shp.Ds, Shp.dflt, Shp.dflts] at *)) <;> (try simp only [Shp.lims, Shp.lim, IntKind.wrap_u64, IntKind.wrap_u8] at *) <;> omega)
  | skip
 with_reducible refine loop_hv [] (10 :: rangeN 30 45) [2152, 2216] [] (fun z b t y => ∃ k : Nat, z 9 = k ∧ m ≤ k ∧ k ≤ B ∧ z 141824 = f ∧ z 145920 = f ∧ z 141825 = cl H (B - m - 64) (B - k - 64) ∧ z 141826 = cl L (min (B - m) 64) (min (B - k) 64) ∧ z 145921 = Go.Proofs.YtkifmppmfkpfbaaGreat.st H (B - m - 64) (B - k - 64) ∧ z 145922 = Go.Proofs.YtkifmppmfkpfbaaGreat.st L (min (B - m) 64) (min (B - k) 64)) (fun z b t y => ((B : Int) - z 9).toNat) (by cbv) (by cbv) ?_ ?_ (fun z1 b1 t1 u1 y1 R1 hP1 hR1 => ?_)
 ·exact EndOk.au
 ·intro zq bq tq yq hUq
  have q9 := hUq.z 9
  have q141824 := hUq.z 141824
  have q141825 := hUq.z 141825
  have q141826 := hUq.z 141826
  have q145920 := hUq.z 145920
  have q145921 := hUq.z 145921
  have q145922 := hUq.z 145922
  cbv at q9 q141824 q141825 q141826 q145920 q145921 q145922
  replace q9 := q9.eq
  replace q141824 := q141824.eq
  replace q141825 := q141825.eq
  replace q141826 := q141826.eq
  replace q145920 := q145920.eq
  replace q145921 := q145921.eq
  replace q145922 := q145922.eq
  simp only [atI, atB, atT, atY, convL_self, vem, veq, ne_eq, cmpI, arI, dvI, shI, SV.den] at q9 q141824 q141825 q141826 q145920 q145921 q145922
  clear hUq
  try dsimp only [Shp.D, Shp.Ds, Shp.dflt] at *
  try simp only [vla, vem, veq] at *
  exact ⟨m, q9.symm, Nat.le_refl _, by omega, q141824.symm, q145920.symm, by rw [cl_full]; exact q141825.symm, by rw [cl_full]; exact q141826.symm, by rw [st_full]; exact q145921.symm, by rw [st_full]; exact q145922.symm⟩
 obtain ⟨k, p9, p1, p2, p3, p4, p5, p6, p7, p8⟩ := hP1
 cbv
 (repeat' (first|((with_reducible apply And.intro <;> intro h) <;> (first|(with_reducible first|exact (tf h ‹_›).elim|exact (tf ‹_› h).elim)|cbv))|((with_reducible first|apply Cb.mk|apply Lz.mk|apply JoinT.left|(apply AllT.mk;intro x hx));cbv)|((with_reducible refine Ob.mk (fun _ => ?_) ?_);rotate_left 1)|(with_reducible first|refine Mg.mk (Exists.intro ?_ (And.intro ?_ ?_))|rfl|apply Fin.mk|exact True.intro|apply And.intro)))
 all_goals first | (with_reducible show Goes _ _ _ _; skip) | (clear hR1)
 ·with_reducible refine hR1 _ ?_ (fun zq bq tq yq hUq => ?_)
  ·exact EndOk.au
  have q9 := hUq.z 9
  have q141824 := hUq.z 141824
  have q141825 := hUq.z 141825
  have q141826 := hUq.z 141826
  have q145920 := hUq.z 145920
  have q145921 := hUq.z 145921
  have q145922 := hUq.z 145922
  cbv at q9 q141824 q141825 q141826 q145920 q145921 q145922
  replace q9 := q9.eq
  replace q141824 := q141824.eq
  replace q141825 := q141825.eq
  replace q141826 := q141826.eq
  replace q145920 := q145920.eq
  replace q145921 := q145921.eq
  replace q145922 := q145922.eq
  simp only [atI, atB, atT, atY, convL_self, vem, veq, ne_eq, cmpI, arI, dvI, shI, SV.den] at q9 q141824 q141825 q141826 q145920 q145921 q145922
  clear hUq hR1
  try dsimp only [Shp.D, Shp.Ds, Shp.dflt] at *
  try simp only [vem, veq, ne_eq, cmpI, arI, dvI, shI, SV.den, elemAt, convL_self] at *
  try dsimp only [Shp.D, Shp.Ds, Shp.dflt, Shp.dflts] at *
  rw [hx.1, ← hBe, p9] at h q141825 q145921
  rename_i hlt _ _
  have hlt' : k < B := by have := ‹z1 9 < _›; simp_all
  have h64 : 64 ≤ B - 1 - k := by omega
  rw [pf_exp1 B k hlt' hB h64, Int.one_mul, wrap_pow _ (by omega)] at q141825 q145921
  rw [p5, show B - k - 64 = (B - 1 - k - 64) + 1 by omega, cl_step H _ _ (by omega) (by omega) (by omega)] at q141825
  rw [p7, show B - k - 64 = (B - 1 - k - 64) + 1 by omega, st_step H _ _ (by omega) (by omega) (by omega)] at q145921
  refine ⟨⟨k + 1, by omega, by omega, by omega, by rw [← q141824, p3], by rw [← q145920, p4], ?_, ?_, ?_, ?_⟩, by omega⟩
  ·rw [← q141825, show B - 1 - k - 64 = B - (k + 1) - 64 by omega]
  ·rw [← q141826, p6, show min (B - k) 64 = min (B - (k + 1)) 64 by omega]
  ·rw [← q145921, show B - 1 - k - 64 = B - (k + 1) - 64 by omega]
  ·rw [← q145922, p8, show min (B - k) 64 = min (B - (k + 1)) 64 by omega]
 rotate_left 2
 ·with_reducible refine hR1 _ ?_ (fun zq bq tq yq hUq => ?_)
  ·exact EndOk.au
  have q9 := hUq.z 9
  have q141824 := hUq.z 141824
  have q141825 := hUq.z 141825
  have q141826 := hUq.z 141826
  have q145920 := hUq.z 145920
  have q145921 := hUq.z 145921
  have q145922 := hUq.z 145922
  cbv at q9 q141824 q141825 q141826 q145920 q145921 q145922
  replace q9 := q9.eq
  replace q141824 := q141824.eq
  replace q141825 := q141825.eq
  replace q141826 := q141826.eq
  replace q145920 := q145920.eq
  replace q145921 := q145921.eq
  replace q145922 := q145922.eq
  simp only [atI, atB, atT, atY, convL_self, vem, veq, ne_eq, cmpI, arI, dvI, shI, SV.den] at q9 q141824 q141825 q141826 q145920 q145921 q145922
  clear hUq hR1
  try dsimp only [Shp.D, Shp.Ds, Shp.dflt] at *
  try simp only [vem, veq, ne_eq, cmpI, arI, dvI, shI, SV.den, elemAt, convL_self] at *
  try dsimp only [Shp.D, Shp.Ds, Shp.dflt, Shp.dflts] at *
  rw [hx.1, ← hBe, p9] at h q141826 q145922
  have hlt' : k < B := by have := ‹z1 9 < _›; simp_all
  have h64 : B - 1 - k < 64 := by omega
  rw [pf_exp2 B k hlt' hB h64, Int.one_mul, wrap_pow _ (by omega)] at q141826 q145922
  rw [p6, show min (B - k) 64 = (B - 1 - k) + 1 by omega, cl_step L _ _ (by omega) (by omega) (by omega)] at q141826
  rw [p8, show min (B - k) 64 = (B - 1 - k) + 1 by omega, st_step L _ _ (by omega) (by omega) (by omega)] at q145922
  refine ⟨⟨k + 1, by omega, by omega, by omega, by rw [← q141824, p3], by rw [← q145920, p4], ?_, ?_, ?_, ?_⟩, by omega⟩
  ·rw [← q141825, p5, show B - k - 64 = B - (k + 1) - 64 by omega]
  ·rw [← q141826, show B - 1 - k = min (B - (k + 1)) 64 by omega]
  ·rw [← q145921, p7, show B - k - 64 = B - (k + 1) - 64 by omega]
  ·rw [← q145922, show B - 1 - k = min (B - (k + 1)) 64 by omega]
 all_goals first
  | (((try dsimp only [Shp.D, Shp.Ds, Shp.dflt] at *); simp only [vla, vem, veq, vln] at *; (try dsimp only [Shp.D, Shp.Ds, Shp.dflt, Shp.dflts] at *)) <;> (try simp only [Shp.lims, Shp.lim, IntKind.wrap_u64, IntKind.wrap_u8] at *) <;> omega)
  | skip
 (try dsimp only [Shp.D, Shp.Ds, Shp.dflt] at *); simp only [vla, vem, veq, vln] at *; (try dsimp only [Shp.D, Shp.Ds, Shp.dflt, Shp.dflts] at *)
 have hkB : k = B := by
  have := ‹¬z1 9 < _›
  rw [hx.1, ← hBe, p9] at this
  omega
 subst hkB
 have := pfx_ok f H L (k - m) hA (by omega)
 simp only [Nat.sub_self, Nat.zero_sub, Nat.zero_min, Nat.min_zero] at p5 p6 p7 p8
 simp only [toAdr, p3, p4, p5, p6, p7, p8]
 exact ⟨this.1, this.2.1, this.2.2⟩
end
section
section
variable {P : Program} {T : TT} {K : ET}
theorem ask_run {t : TypeId} {ke : Shp} (heq : ∀ (w : World) (Z : Nat → Prop) (x y : ke.D) (cs ds : List Value), Shp.rep w Z ke x cs → Shp.rep w Z ke y ds → (Op.equal t (ke.pk cs) (ke.pk ds)).run P w = .ok (Shp.eqD ke y x) w)
    (w : World) (Z : Nat → Prop) (x : ke.D) (cs : List Value) (hx : Shp.rep w Z ke x cs) : ∀ (ks : List ke.D) (es : List MapEntry) (i : Nat), All2 (fun e y => ∃ kc, Shp.rep w Z ke y kc ∧ e.key = ke.pk kc) es ks →
    ∃ r, (Instr.findAsking t (ke.pk cs) es i).run P w = .ok r w ∧ (match r with
      | none => ∀ y ∈ ks, Shp.eqD ke y x = false
      | some (j, v) => ∃ n, j = i + n ∧ (∃ e, es[n]? = some e ∧ v = e.val) ∧ (∃ y, ks[n]? = some y ∧ Shp.eqD ke y x = true) ∧ ∀ m y, m < n → ks[m]? = some y → Shp.eqD ke y x = false)
 | [], [], i, _ => ⟨none, by simp [Instr.findAsking], fun y hy => by cases hy⟩
 | [], _ :: _, _, h => by cases h
 | _ :: _, [], _, h => by cases h
 | y :: ks, e :: es, i, h => by
   obtain ⟨⟨kc, hk, he⟩, h2⟩ : (∃ kc, Shp.rep w Z ke y kc ∧ e.key = ke.pk kc) ∧ All2 (fun e y => ∃ kc, Shp.rep w Z ke y kc ∧ e.key = ke.pk kc) es ks := by
    exact h
   have hq := heq w Z x y cs kc hx hk
   rw [← he] at hq
   cases hb : Shp.eqD ke y x with
   | true =>
     rw [hb] at hq
     exact ⟨some (i, e.val), by simp [Instr.findAsking, hq], 0, by omega, ⟨e, rfl, rfl⟩, ⟨y, rfl, hb⟩, fun m y hm => by omega⟩
   | false =>
     rw [hb] at hq
     obtain ⟨r, h3, h4⟩ := ask_run heq w Z x cs hx ks es (i + 1) h2
     refine ⟨r, by simp [Instr.findAsking, hq, h3], ?_⟩
     cases r with
     | none =>
       intro y' hy'
       rcases List.mem_cons.1 hy' with rfl | hy'
       ·exact hb
       ·exact h4 y' hy'
     | some p =>
       obtain ⟨j, v⟩ := p
       obtain ⟨n, k1, k2, k3, k4⟩ := h4
       refine ⟨n + 1, by omega, by simpa using k2, by simpa using k3, fun m y' hm hy' => ?_⟩
       cases m with
       | zero =>
         simp only [List.getElem?_cons_zero, Option.some.injEq] at hy'
         rw [← hy']; exact hb
       | succ m => exact k4 m y' (by omega) (by simpa using hy')
theorem chk_fields {em : Bool} {n : Nat} {vs : List SV} (hT : TT.ok P T) (w : World) : ∀ (fs : List Field) (l : List (Nat × TypeId)), fs.map (fun f => (f.name == "_", f.offset, f.type)) = l.map (fun x => (false, x.1, x.2)) →
    (∀ p ∈ l, (∃ k, P.underlying p.2 = some (.int k)) ∧ ∃ i, TT.look T p.2 = some i ∧ ∃ v, partV i vs p.1 = some v) → ∀ (ρ : Nm),
    (forIn (m := Sem) fs PUnit.unit fun f _ => (do
        if f.name ≠ "_" then
         let a ← part f.type (SV.dens ρ vs).toArray f.offset
         Instr.checkKey em (n + 1) f.type a
         pure (ForInStep.yield PUnit.unit)
        else pure (ForInStep.yield PUnit.unit))).run P w = .ok PUnit.unit w
 | [], [], _, _, _ => by simp
 | [], _ :: _, he, _, _ => by cases he
 | _ :: _, [], he, _, _ => by cases he
 | f :: fs, (o, t) :: l, he, h, ρ => by
   simp only [List.map_cons, List.cons.injEq, Prod.mk.injEq] at he
   obtain ⟨⟨h1, rfl, rfl⟩, he⟩ := he
   obtain ⟨⟨k, hk⟩, i, hi, v, hv⟩ := h _ List.mem_cons_self
   have hn : f.name ≠ "_" := by simpa using h1
   have ih := chk_fields (em := em) (n := n) hT w fs l he (fun p hp => h p (List.mem_cons_of_mem _ hp)) ρ
   have hc : (Instr.checkKey em (n + 1) f.type (v.den ρ)).run P w = .ok () w := by
    rw [Instr.checkKey]
    simp only [Sem.run_bind, run_underlying hk, Result.andThen_ok, Sem.run_pure]
   simp only [List.forIn_cons, Sem.run_bind, if_pos hn, partV_part (TT.look_ok hT hi) hv, Result.andThen_ok, hc, Sem.run_pure]
   exact ih
def nm0 : Nm := ⟨fun _ => 0, fun _ => ⟨none, 0, 0⟩, fun _ _ => False⟩
theorem ky_int3 (hT : TT.ok P T) (hK : ET.ok P K) {t a b c : TypeId} (hs : K t = some (.struct [(0, a), (1, b), (2, c)])) (ha : K a = some .int) (hb : K b = some .int) (hc : K c = some .int)
    (hp : ∀ x y z : SV, ∀ p ∈ [(0, a), (1, b), (2, c)], ∃ i, TT.look T p.2 = some i ∧ ∃ v, partV i [x, y, z] p.1 = some v)
    (he : ∀ x y z x' y' z' : IE, ∃ r : BE, eqV T K 8 t (.agg [.int .i64 x, .int .i64 y, .int .i64 z]) (.agg [.int .i64 x', .int .i64 y', .int .i64 z']) = some r ∧ r.den = (x.den == x'.den && (y.den == y'.den && z.den == z'.den))) :
    KyOk P t (.st [.int .i64, .int .i64, .int .i64]) := by
 have hu : EKS P t _ := hK t _ hs
 have rep3 : ∀ (w : World) (Z : Nat → Prop) (x : (Shp.st [.int .i64, .int .i64, .int .i64]).D) (cs : List Value), Shp.rep w Z (.st [.int .i64, .int .i64, .int .i64]) x cs → cs = SV.dens nm0 [.int .i64 (.x x.1), .int .i64 (.x x.2.1), .int .i64 (.x x.2.2.1)] := by
  intro w Z x cs h
  simp only [Shp.rep, Shp.reps] at h
  obtain ⟨v1, v2, rfl, rfl, v3, v4, rfl, rfl, v5, v6, rfl, rfl, rfl⟩ := h
  simp only [SV.dens, SV.den, den_x, List.cons_append, List.nil_append]
 have heq : ∀ (w : World) (Z : Nat → Prop) (x y : (Shp.st [.int .i64, .int .i64, .int .i64]).D) (cs ds : List Value), Shp.rep w Z (.st [.int .i64, .int .i64, .int .i64]) x cs → Shp.rep w Z (.st [.int .i64, .int .i64, .int .i64]) y ds →
     (Op.equal t (Shp.pk (.st [.int .i64, .int .i64, .int .i64]) cs) (Shp.pk (.st [.int .i64, .int .i64, .int .i64]) ds)).run P w = .ok (Shp.eqD (.st [.int .i64, .int .i64, .int .i64]) y x) w := by
  intro w Z x y cs ds hx hy
  rw [rep3 w Z x cs hx, rep3 w Z y ds hy]
  obtain ⟨r, h1, h2⟩ := he (.x x.1) (.x x.2.1) (.x x.2.2.1) (.x y.1) (.x y.2.1) (.x y.2.2.1)
  have := eqV_sound hT hK nm0 w 8 9992 t _ _ _ h1
  rw [h2] at this
  have e : (x.1 == y.1 && (x.2.1 == y.2.1 && x.2.2.1 == y.2.2.1)) = Shp.eqD (.st [.int .i64, .int .i64, .int .i64]) y x := by
   simp only [Shp.eqD, Shp.eqDs, intEq, Bool.and_true]
   congr 1
   ·exact Bool.beq_comm
   ·congr 1 <;> exact Bool.beq_comm
  rw [← e]
  simp only [SV.den, den_x] at this
  exact this
 refine ⟨rfl, fun w Z em x cs hx => ?_, fun w Z x cs ks es hx h2 => ?_⟩
 ·rw [rep3 w Z x cs hx]
  show (Instr.checkKey em 10000 t (.agg _)).run P w = _
  rw [show (10000 : Nat) = (9998 + 1) + 1 from rfl, Instr.checkKey]
  simp only [Sem.run_bind, run_underlying hu.un, Result.andThen_ok]
  rw [← Array.forIn_toList]
  have hf := chk_fields (em := em) (n := 9998) (vs := [.int .i64 (.x x.1), .int .i64 (.x x.2.1), .int .i64 (.x x.2.2.1)]) hT w _ _ hu.fl (fun p hp' => ⟨by
   rcases List.mem_cons.1 hp' with rfl | hp'
   ·exact hK a _ ha
   ·rcases List.mem_cons.1 hp' with rfl | hp'
    ·exact hK b _ hb
    ·rw [List.mem_singleton] at hp'
     subst hp'
     exact hK c _ hc, hp _ _ _ p hp'⟩) nm0
  rw [hf]
  rfl
 ·obtain ⟨r, h3, h4⟩ := ask_run heq w Z x cs hx ks es 0 h2
  have hask : (Instr.findKey t (Shp.pk (.st [.int .i64, .int .i64, .int .i64]) cs) es).run P w = .ok r w := by
   unfold Instr.findKey
   simp only [Sem.run_bind, run_underlying hu.un, Result.andThen_ok]
   cases es with
   | nil =>
     simp only [Instr.findNow]
     simp only [Instr.findAsking] at h3
     exact h3
   | cons e es => simpa only [Instr.findNow, Instr.sameNow] using h3
  refine ⟨r, hask, ?_⟩
  cases r with
  | none => exact h4
  | some p =>
    obtain ⟨j, v⟩ := p
    obtain ⟨n, k1, k2, k3, k4⟩ := h4
    rw [Nat.zero_add] at k1
    subst k1
    exact ⟨k2, k3, k4⟩
theorem now_int {k : IntKind} (w : World) (Z : Nat → Prop) (x : Int) : ∀ (ks : List Int) (es : List MapEntry) (i : Nat), All2 (fun e y => ∃ kc, Shp.rep w Z (.int .i64) y kc ∧ e.key = Shp.pk (.int .i64) kc) es ks →
    ∃ r, Instr.findNow (.int k) (.int .i64 x) es i = some r ∧ (match r with
      | none => ∀ y ∈ ks, Shp.eqD (.int .i64) y x = false
      | some (j, v) => ∃ n, j = i + n ∧ (∃ e, es[n]? = some e ∧ v = e.val) ∧ (∃ y, ks[n]? = some y ∧ Shp.eqD (.int .i64) y x = true) ∧ ∀ m y, m < n → ks[m]? = some y → Shp.eqD (.int .i64) y x = false)
 | [], [], i, _ => ⟨none, rfl, fun y hy => by cases hy⟩
 | [], _ :: _, _, h => by cases h
 | _ :: _, [], _, h => by cases h
 | y :: ks, e :: es, i, h => by
   obtain ⟨⟨kc, hk, he⟩, h2⟩ : (∃ kc, Shp.rep w Z (.int .i64) y kc ∧ e.key = Shp.pk (.int .i64) kc) ∧ All2 (fun e y => ∃ kc, Shp.rep w Z (.int .i64) y kc ∧ e.key = Shp.pk (.int .i64) kc) es ks := by
    exact h
   simp only [Shp.rep] at hk
   subst hk
   have he' : e.key = .int .i64 y := he
   have hq : Instr.sameNow (.int k) (.int .i64 x) e.key = some (x == y) := by rw [he']; simp [Instr.sameNow]
   cases hb : Shp.eqD (.int .i64) y x with
   | true =>
     have hxy : (x == y) = true := by simp only [Shp.eqD, intEq, beq_iff_eq] at hb ⊢; exact hb.symm
     rw [hxy] at hq
     exact ⟨some (i, e.val), by simp only [Instr.findNow, hq], 0, by omega, ⟨e, rfl, rfl⟩, ⟨y, rfl, hb⟩, fun m y hm => by omega⟩
   | false =>
     have hxy : (x == y) = false := by simp only [Shp.eqD, intEq, beq_eq_false_iff_ne, ne_eq] at hb ⊢; exact fun h => hb h.symm
     rw [hxy] at hq
     obtain ⟨r, h3, h4⟩ := now_int (k := k) w Z x ks es (i + 1) h2
     refine ⟨r, by simp only [Instr.findNow, hq, h3], ?_⟩
     cases r with
     | none =>
       intro y' hy'
       rcases List.mem_cons.1 hy' with rfl | hy'
       ·exact hb
       ·exact h4 y' hy'
     | some p =>
       obtain ⟨j, v⟩ := p
       obtain ⟨n, k1, k2, k3, k4⟩ := h4
       refine ⟨n + 1, by omega, by simpa using k2, by simpa using k3, fun m y' hm hy' => ?_⟩
       cases m with
       | zero =>
         simp only [List.getElem?_cons_zero, Option.some.injEq] at hy'
         rw [← hy']; exact hb
       | succ m => exact k4 m y' (by omega) (by simpa using hy')
theorem ky_int {t : TypeId} {k : IntKind} (hu : P.underlying t = some (.int k)) : KyOk P t (.int .i64) := by
 refine ⟨rfl, fun w Z em x cs hx => ?_, fun w Z x cs ks es hx h2 => ?_⟩
 ·simp only [Shp.rep] at hx
  subst hx
  show (Instr.checkKey em 10000 t (.int .i64 x)).run P w = _
  rw [show (10000 : Nat) = 9999 + 1 from rfl, Instr.checkKey]
  simp only [Sem.run_bind, run_underlying hu, Result.andThen_ok, Sem.run_pure]
 ·simp only [Shp.rep] at hx
  subst hx
  obtain ⟨r, h3, h4⟩ := now_int (k := k) w Z x ks es 0 h2
  refine ⟨r, ?_, ?_⟩
  ·show (Instr.findKey t (.int .i64 x) es).run P w = _
   unfold Instr.findKey
   simp only [Sem.run_bind, run_underlying hu, Result.andThen_ok, h3, Sem.run_pure]
  ·cases r with
   | none => exact h4
   | some p =>
     obtain ⟨j, v⟩ := p
     obtain ⟨n, k1, k2, k3, k4⟩ := h4
     rw [Nat.zero_add] at k1
     subst k1
     exact ⟨k2, k3, k4⟩
end
end
end Go.Proofs.YtkifmppmfkpfbaaGreat.V
