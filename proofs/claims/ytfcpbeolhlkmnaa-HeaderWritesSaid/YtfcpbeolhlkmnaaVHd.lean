/- Contracts: the header of messages. -/
import Derived.Test.YtfcpbeolhlkmnaaVNu
import Derived.Test.YtfcpbeolhlkmnaaVP
import Derived.Test.YtfcpbeolhlkmnaaVf
set_option linter.unusedVariables false
set_option linter.unusedSimpArgs false
namespace Go.Proofs.Ytfcpbeolhlkmnaa.V
open Go.RowKit
set_option maxHeartbeats 8000000
set_option maxRecDepth 100000
def hnC_t : SpecT := fun _ => none
def hnC : Cx := ⟨tt, qt, bt, st, hnC_t, 0, 1000000000000000, fun _ => none, false⟩
theorem hnC_si {E : Env} (h : E.ok) : SpecsOk Try.prog E hnC_t (fun _ => none) := ⟨(fun t f h => by cases h), noI_ok _ _⟩
theorem hnC_cx (E : Env) (h : E.ok) (h1 : E.lo = 0) (h2 : E.hi = 1000000000000000) : Cx.ok hnC Try.prog E := ⟨tt_ok, qt_ok, bt_ok, hnC_si h, h, h1, h2, mixed_ok⟩
theorem hnC_from (lo hi : Nat) (E : Env) (h : E.ok) (h1 : E.lo = lo) (h2 : E.hi = hi) : Cx.ok (Cx.from hnC lo hi) Try.prog E := ⟨tt_ok, qt_ok, bt_ok, hnC_si h, h, h1, h2, mixed_ok⟩
/-- A header: both SPIs, next payload, exchange, flags, number. -/
abbrev hdE : Shp := .st [.int .u64, .int .u64, .int .i64, .int .i64, .int .i64, .int .u32]
abbrev HdT : Type := Int × Int × Int × Int × Int × Int × Unit
abbrev hd0 : HdT := (0, 0, 0, 0, 0, 0, ())
def ckF (h : HdT) : Int :=
  if h.1 = 0 then 20
  else if h.2.2.2.1 < 34 ∨ h.2.2.2.1 > 37 ∨ h.2.2.1 < 0 ∨ h.2.2.1 > 255 ∨ ¬ bits .andNot .i64 h.2.2.2.2.1 56 = 0 then 5
  else if ¬ h.2.2.2.1 = 34 ∧ h.2.1 = 0 then 20
  else if h.2.2.2.1 = 34 ∧ ¬ h.2.2.2.2.2.1 = 0 then 7
  else 0
abbrev ckFn : Spec := fnFn [hdE] [.int .i64] (fun _ => True) fun x => (ckF x.1, ())
theorem hck_fn : hasFn Try.prog 30 := ⟨_, Try.func30, by rfl, by rfl⟩
theorem hck_sp0 {E : Env} (hE : E.ok) : SpecOk Try.prog E 30 (fnSpec [hdE] [.int .i64] [] (fun _ => True) fun x y => y.1 = ckF x.1) := by
  refine spec_of_vc (C := hnC) hck_fn Try.func30 (by kernel_rfl) hnC_cx (fun x hl hx => ?_) hE
  obtain ⟨⟨i, r, n, e, f, m, _⟩, _⟩ := x
  cbv
  (repeat' (first | ((with_reducible refine And.intro (fun h => ?_) (fun h => ?_)) <;> (first | with_reducible exact (tf h (by assumption)).elim | with_reducible exact (tf (by assumption) h).elim | cbv)) | ((with_reducible first | refine Cb.mk ?_ | refine Lz.mk ?_ | refine JoinT.left ?_ | refine AllT.mk (fun x hx => ?_)); cbv) | ((with_reducible refine Ob.mk (fun _ => ?_) ?_); rotate_left 1) | (with_reducible first | refine Mg.mk (Exists.intro ?_ (And.intro ?_ ?_)) | rfl | refine Fin.mk ?_ | exact True.intro | refine And.intro ?_ ?_)))
  all_goals first | (with_reducible show (∃ _, unr _ _ _ _ _ _); skip) | (with_reducible show Goes _ _ _ _; skip) | (with_reducible show JoinT _ _ _ _ _ _; skip) | (first | ((try dsimp only [Shp.D, Shp.Ds, Shp.dflt] at *); simp only [vem, veq, ne_eq, cmpI, arI, dvI, shI, SV.den, obLt, elemAt, obApp, partL, obPart, lowD, highD, mxOk, convL_self, zerosB, List.length_replicate, vln] at *; (try dsimp only [Shp.D, Shp.Ds, Shp.dflt, Shp.dflts] at *); done) | ((try dsimp only [Shp.D, Shp.Ds, Shp.dflt] at *); simp only [vem, veq, ne_eq, cmpI, arI, dvI, shI, SV.den, obLt, elemAt, obApp, partL, obPart, lowD, highD, mxOk, convL_self, zerosB, List.length_replicate, vln] at *; (try dsimp only [Shp.D, Shp.Ds, Shp.dflt, Shp.dflts] at *); unfold ckF; simp_all; done) | ((try dsimp only [Shp.D, Shp.Ds, Shp.dflt] at *); simp only [vem, veq, ne_eq, cmpI, arI, dvI, shI, SV.den, obLt, elemAt, obApp, partL, obPart, lowD, highD, mxOk, convL_self, zerosB, List.length_replicate, vln] at *; (try dsimp only [Shp.D, Shp.Ds, Shp.dflt, Shp.dflts] at *); unfold ckF; simp_all; omega))
theorem hck_sp {E : Env} (hE : E.ok) : SpecOk Try.prog E 30 ckFn := fnFn_of (hck_sp0 hE) fun (x : Shp.Ds [hdE]) (y : Shp.Ds [.int .i64]) h => by rw [← h]
theorem rck_fn : hasFn Try.prog 31 := ⟨_, Try.func31, by rfl, by rfl⟩
theorem rck_sp0 {E : Env} (hE : E.ok) : SpecOk Try.prog E 31 (fnSpec [hdE] [.int .i64] [] (fun _ => True) fun x y => y.1 = ckF x.1) := by
  refine spec_of_vc (C := hnC) rck_fn Try.func31 (by kernel_rfl) hnC_cx (fun x hl hx => ?_) hE
  obtain ⟨⟨i, r, n, e, f, m, _⟩, _⟩ := x
  cbv
  (repeat' (first | ((with_reducible refine And.intro (fun h => ?_) (fun h => ?_)) <;> (first | with_reducible exact (tf h (by assumption)).elim | with_reducible exact (tf (by assumption) h).elim | cbv)) | ((with_reducible first | refine Cb.mk ?_ | refine Lz.mk ?_ | refine JoinT.left ?_ | refine AllT.mk (fun x hx => ?_)); cbv) | ((with_reducible refine Ob.mk (fun _ => ?_) ?_); rotate_left 1) | (with_reducible first | refine Mg.mk (Exists.intro ?_ (And.intro ?_ ?_)) | rfl | refine Fin.mk ?_ | exact True.intro | refine And.intro ?_ ?_)))
  all_goals first | (with_reducible show (∃ _, unr _ _ _ _ _ _); skip) | (with_reducible show Goes _ _ _ _; skip) | (with_reducible show JoinT _ _ _ _ _ _; skip) | (first | ((try dsimp only [Shp.D, Shp.Ds, Shp.dflt] at *); simp only [vem, veq, ne_eq, cmpI, arI, dvI, shI, SV.den, obLt, elemAt, obApp, partL, obPart, lowD, highD, mxOk, convL_self, zerosB, List.length_replicate, vln] at *; (try dsimp only [Shp.D, Shp.Ds, Shp.dflt, Shp.dflts] at *); done) | ((try dsimp only [Shp.D, Shp.Ds, Shp.dflt] at *); simp only [vem, veq, ne_eq, cmpI, arI, dvI, shI, SV.den, obLt, elemAt, obApp, partL, obPart, lowD, highD, mxOk, convL_self, zerosB, List.length_replicate, vln] at *; (try dsimp only [Shp.D, Shp.Ds, Shp.dflt, Shp.dflts] at *); unfold ckF; simp_all; done) | ((try dsimp only [Shp.D, Shp.Ds, Shp.dflt] at *); simp only [vem, veq, ne_eq, cmpI, arI, dvI, shI, SV.den, obLt, elemAt, obApp, partL, obPart, lowD, highD, mxOk, convL_self, zerosB, List.length_replicate, vln] at *; (try dsimp only [Shp.D, Shp.Ds, Shp.dflt, Shp.dflts] at *); unfold ckF; simp_all; omega))
theorem rck_sp {E : Env} (hE : E.ok) : SpecOk Try.prog E 31 ckFn := fnFn_of (rck_sp0 hE) fun (x : Shp.Ds [hdE]) (y : Shp.Ds [.int .i64]) h => by rw [← h]
/-! Parse. -/
def hdOf (b : List UInt8) : HdT := ((numF b 0 8).1, (numF b 8 8).1, (numF b 16 1).1, (numF b 18 1).1, bits .and .i64 (numF b 19 1).1 56, (numF b 20 4).1, ())
def parseF (b : List UInt8) : HdT × Int :=
  if b.length < 28 then (hd0, 1)
  else if ¬ (numF b 17 1).1 / 16 = 2 then (hd0, 3)
  else if ¬ (numF b 24 4).1 = b.length then (hd0, 2)
  else if ¬ ckF (hdOf b) = 0 then (hd0, ckF (hdOf b))
  else (hdOf b, 0)
theorem num_fail {b : List UInt8} {a w : Int} (h : (!(numF b a w).2) = true) (ha : 0 ≤ a) (h1 : 1 ≤ w) (h8 : w ≤ 8) : (b.length : Int) < a + w := by
  unfold numF at h
  split at h
  · cases h
  · omega
theorem num_ok {b : List UInt8} {a w : Int} (h : (!(numF b a w).2) = false) : a + w ≤ (b.length : Int) := by
  unfold numF at h
  split at h
  · omega
  · cases h
theorem num_1 (b : List UInt8) (a : Int) : 0 ≤ (numF b a 1).1 ∧ (numF b a 1).1 < 256 := ⟨numF_nn b a 1, numF_lt b a 1 1 (by decide)⟩
theorem num_4 (b : List UInt8) (a : Int) : 0 ≤ (numF b a 4).1 ∧ (numF b a 4).1 < 4294967296 := ⟨numF_nn b a 4, numF_lt b a 4 4 (by decide)⟩
theorem num_8 (b : List UInt8) (a : Int) : 0 ≤ (numF b a 8).1 ∧ (numF b a 8).1 < 18446744073709551616 := ⟨numF_nn b a 8, numF_lt b a 8 8 (by decide)⟩
abbrev hdW (b : List UInt8) : HdT := ((numF b 0 8).1, (numF b 8 8).1, ((numF b 16 1).1 + 9223372036854775808) % 18446744073709551616 - 9223372036854775808, ((numF b 18 1).1 + 9223372036854775808) % 18446744073709551616 - 9223372036854775808, bits BinOp.and .i64 (((numF b 19 1).1 + 9223372036854775808) % 18446744073709551616 - 9223372036854775808) 56, IntKind.u32.wrap (numF b 20 4).1, ())
theorem w1 (b : List UInt8) (a : Int) : ((numF b a 1).1 + 9223372036854775808) % 18446744073709551616 - 9223372036854775808 = (numF b a 1).1 := by
  have := num_1 b a
  omega
theorem hdW_eq (b : List UInt8) : hdW b = hdOf b := by
  unfold hdW hdOf
  have := num_4 b 20
  rw [w1, w1, w1, show IntKind.u32.wrap (numF b 20 4).1 = (numF b 20 4).1 from by rw [IntKind.wrap_u32]; omega]
theorem parse_short {b : List UInt8} {a w : Int} (h : (!(numF b a w).2) = true) (ha : 0 ≤ a) (h1 : 1 ≤ w) (h8 : w ≤ 8) (hs : a + w ≤ 28) : (hd0, 1) = parseF b := by
  have := num_fail h ha h1 h8
  unfold parseF; rw [if_pos (by omega)]
theorem ver_eq (b : List UInt8) : IntKind.u64.wrap ((numF b 17 1).1.tdiv 16) = (numF b 17 1).1 / 16 := by
  have := num_1 b 17
  rw [IntKind.wrap_u64, Int.tdiv_eq_ediv_of_nonneg this.1]
  omega
theorem parse_ver {b : List UInt8} (h28 : 28 ≤ (b.length : Int)) (h : ¬ IntKind.u64.wrap ((numF b 17 1).1.tdiv 16) = 2) : (hd0, 3) = parseF b := by
  rw [ver_eq] at h
  unfold parseF; rw [if_neg (by omega), if_pos h]
theorem parse_len {b : List UInt8} (h28 : 28 ≤ (b.length : Int)) (hl : b.length ≤ 140737488355328) (hv : IntKind.u64.wrap ((numF b 17 1).1.tdiv 16) = 2) (h : ¬ (numF b 24 4).1 = IntKind.u64.wrap (b.length : Int)) : (hd0, 2) = parseF b := by
  rw [ver_eq] at hv
  rw [IntKind.wrap_u64] at h
  unfold parseF; rw [if_neg (by omega), if_neg (by omega), if_pos (by omega)]
theorem parse_ck {b : List UInt8} (h28 : 28 ≤ (b.length : Int)) (hl : b.length ≤ 140737488355328) (hv : IntKind.u64.wrap ((numF b 17 1).1.tdiv 16) = 2) (h : (numF b 24 4).1 = IntKind.u64.wrap (b.length : Int)) (hc : ¬ ckF (hdW b) = 0) : (hd0, ckF (hdW b)) = parseF b := by
  rw [ver_eq] at hv
  rw [IntKind.wrap_u64] at h
  rw [hdW_eq] at hc ⊢
  unfold parseF; rw [if_neg (by omega), if_neg (by omega), if_neg (by omega), if_pos hc]
theorem parse_good {b : List UInt8} (h28 : 28 ≤ (b.length : Int)) (hl : b.length ≤ 140737488355328) (hv : IntKind.u64.wrap ((numF b 17 1).1.tdiv 16) = 2) (h : (numF b 24 4).1 = IntKind.u64.wrap (b.length : Int)) (hc : ckF (hdW b) = 0) : (hdW b, 0) = parseF b := by
  rw [ver_eq] at hv
  rw [IntKind.wrap_u64] at h
  rw [hdW_eq] at hc ⊢
  unfold parseF; rw [if_neg (by omega), if_neg (by omega), if_neg (by omega), if_neg (by omega)]
def tkC_t : SpecT := lf0 50 (numSp)
def tkC : Cx := ⟨tt, qt, bt, st, tkC_t, 0, 1000000000000000, fun _ => none, false⟩
theorem tkC_si {E : Env} (h : E.ok) : SpecsOk Try.prog E tkC_t (fun _ => none) := ⟨(lf0_ok (wnum_sp h)), noI_ok _ _⟩
theorem tkC_cx (E : Env) (h : E.ok) (h1 : E.lo = 0) (h2 : E.hi = 1000000000000000) : Cx.ok tkC Try.prog E := ⟨tt_ok, qt_ok, bt_ok, tkC_si h, h, h1, h2, mixed_ok⟩
theorem tkC_from (lo hi : Nat) (E : Env) (h : E.ok) (h1 : E.lo = lo) (h2 : E.hi = hi) : Cx.ok (Cx.from tkC lo hi) Try.prog E := ⟨tt_ok, qt_ok, bt_ok, tkC_si h, h, h1, h2, mixed_ok⟩
def hpC_t : SpecT := lf0 30 (ckFn)
def hpC_i : SpecT := lf0 45 (inlSpec tkC Try.f45)
def hpC : Cx := ⟨tt, qt, bt, st, hpC_t, 0, 1000000000000000, hpC_i, true⟩
theorem hpC_si {E : Env} (h : E.ok) : SpecsOk Try.prog E hpC_t (hpC_i) := ⟨(lf0_ok (hck_sp h)), (lf0_ok (inl_ok h tkC_from Try.func45 ⟨by rfl, by rfl⟩ (by kernel_rfl)))⟩
theorem hpC_cx (E : Env) (h : E.ok) (h1 : E.lo = 0) (h2 : E.hi = 1000000000000000) : Cx.ok hpC Try.prog E := ⟨tt_ok, qt_ok, bt_ok, hpC_si h, h, h1, h2, mixed_ok⟩
theorem hpC_from (lo hi : Nat) (E : Env) (h : E.ok) (h1 : E.lo = lo) (h2 : E.hi = hi) : Cx.ok (Cx.from hpC lo hi) Try.prog E := ⟨tt_ok, qt_ok, bt_ok, hpC_si h, h, h1, h2, mixed_ok⟩
theorem hpa_fn : hasFn Try.prog 27 := ⟨_, Try.func27, by rfl, by rfl⟩
theorem hpa_sp {E : Env} (hE : E.ok) : SpecOk Try.prog E 27 (fnSpec [.sl .byte] [hdE, .int .i64] [] (fun _ => True) fun x y => (y.1, y.2.1) = parseF x.1) := by
  refine spec_of_vc (C := hpC) hpa_fn Try.func27 (by kernel_rfl) hpC_cx (fun x hl hx => ?_) hE
  obtain ⟨b, _⟩ := x
  have hlen : b.length ≤ 140737488355328 := by simp only [Shp.lims, Shp.lim] at hl; exact hl.1.1
  cbv
  (repeat' (first | ((with_reducible refine And.intro (fun h => ?_) (fun h => ?_)) <;> (first | with_reducible exact (tf h (by assumption)).elim | with_reducible exact (tf (by assumption) h).elim | cbv)) | ((with_reducible show JoinT (fun s K => vc _ (Code.region _ _ true) s K) _ _ _ _ _); (with_reducible apply JoinT.mg2); (focus (cbv; (repeat' (first | ((with_reducible refine And.intro (fun h => ?_) (fun h => ?_)) <;> (first | with_reducible exact (tf h (by assumption)).elim | with_reducible exact (tf (by assumption) h).elim | cbv)) | ((with_reducible first | refine Cb.mk ?_ | refine Lz.mk ?_ | refine JoinT.left ?_ | refine AllT.mk (fun x hx => ?_)); cbv) | ((with_reducible refine Ob.mk (fun _ => ?_) ?_); rotate_left 1) | (with_reducible first | refine Mg.mk (Exists.intro ?_ (And.intro ?_ ?_)) | rfl | refine Fin.mk ?_ | exact True.intro | refine And.intro ?_ ?_))); (all_goals (try (have du : Unit := (); have dv : Unit := (); first | exact Goes.self (Ex2.mk ⟨dv, du, trivial, trivial, rfl⟩) | exact Goes.self (Ex2.mk ⟨x, du, hx, trivial, rfl⟩) | (rename_i xa hxa; exact Goes.self (Ex2.mk ⟨xa, x, hxa, hx, rfl⟩))))); (all_goals (fail_if_success (with_reducible first | show Goes _ _ _ _ | show (∃ _, unr _ _ _ _ _ _))))))) | ((with_reducible first | refine Cb.mk ?_ | refine Lz.mk ?_ | refine JoinT.left ?_ | refine AllT.mk (fun x hx => ?_)); cbv) | ((with_reducible refine Ob.mk (fun _ => ?_) ?_); rotate_left 1) | (with_reducible first | refine Mg.mk (Exists.intro ?_ (And.intro ?_ ?_)) | rfl | refine Fin.mk ?_ | exact True.intro | refine And.intro ?_ ?_)))
  all_goals first | (with_reducible show (∃ _, unr _ _ _ _ _ _); skip) | (with_reducible show Goes _ _ _ _; skip) | (with_reducible show JoinT _ _ _ _ _ _; skip) | (first | ((try dsimp only [Shp.D, Shp.Ds, Shp.dflt] at *); simp only [vem, veq, ne_eq, cmpI, arI, dvI, shI, SV.den, obLt, elemAt, obApp, partL, obPart, lowD, highD, mxOk, convL_self, zerosB, List.length_replicate, vln] at *; (try dsimp only [Shp.D, Shp.Ds, Shp.dflt, Shp.dflts] at *); done) | ((try dsimp only [Shp.D, Shp.Ds, Shp.dflt] at *); simp only [vem, veq, ne_eq, cmpI, arI, dvI, shI, SV.den, obLt, elemAt, obApp, partL, obPart, lowD, highD, mxOk, convL_self, zerosB, List.length_replicate, vln] at *; (try dsimp only [Shp.D, Shp.Ds, Shp.dflt, Shp.dflts] at *); omega) | ((try dsimp only [Shp.D, Shp.Ds, Shp.dflt] at *); simp only [vem, veq, ne_eq, cmpI, arI, dvI, shI, SV.den, obLt, elemAt, obApp, partL, obPart, lowD, highD, mxOk, convL_self, zerosB, List.length_replicate, vln] at *; (try dsimp only [Shp.D, Shp.Ds, Shp.dflt, Shp.dflts] at *); exact parse_short h (by decide) (by decide) (by decide) (by decide)) | ((try dsimp only [Shp.D, Shp.Ds, Shp.dflt] at *); simp only [vem, veq, ne_eq, cmpI, arI, dvI, shI, SV.den, obLt, elemAt, obApp, partL, obPart, lowD, highD, mxOk, convL_self, zerosB, List.length_replicate, vln] at *; (try dsimp only [Shp.D, Shp.Ds, Shp.dflt, Shp.dflts] at *); have h28 := num_ok (‹(!(numF b 24 4).2) = false›); first | exact parse_ver h28 h | exact parse_len h28 hlen (by assumption) h | exact parse_ck h28 hlen (by assumption) (by assumption) h | exact parse_good h28 hlen (by assumption) (by assumption) h))
abbrev hpaSp : Spec := fnSpec [.sl .byte] [hdE, .int .i64] [] (fun _ => True) fun x y => (y.1, y.2.1) = parseF x.1
end Go.Proofs.Ytfcpbeolhlkmnaa.V
