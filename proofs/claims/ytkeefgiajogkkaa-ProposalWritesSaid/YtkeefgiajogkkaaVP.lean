/- Contracts: numbers are written. -/
import Derived.Test.YtkeefgiajogkkaaVd
import Derived.Test.YtkeefgiajogkkaaVty
set_option linter.unusedVariables false
set_option linter.unusedSimpArgs false
namespace Go.Proofs.Ytkeefgiajogkkaa.V
open Go.RowKit
set_option maxHeartbeats 8000000
set_option maxRecDepth 100000
def putC_t : SpecT := fun _ => none
def putC : Cx := ⟨tt, qt, bt, st, putC_t, 0, 1000000000000000, fun _ => none, false, CxE.no, []⟩
theorem putC_si {E : Env} (h : E.ok) : SpecsOk Try.prog E (CxE.no) putC_t (fun _ => none) := ⟨(fun t f h => by cases h), noI_ok _ _ _⟩
theorem putC_x {E : Env} (h : E.ok) : CxEOk Try.prog E (CxE.no) := CxE.no_ok _ _
theorem putC_cx (E : Env) (h : E.ok) (h1 : E.lo = 0) (h2 : E.hi = 1000000000000000) : Cx.ok putC Try.prog E := ⟨tt_ok, qt_ok, bt_ok, putC_si h, h, h1, h2, mixed_ok, putC_x h⟩
theorem putC_from (lo hi : Nat) (E : Env) (h : E.ok) (h1 : E.lo = lo) (h2 : E.hi = hi) : Cx.ok (Cx.from putC lo hi) Try.prog E := ⟨tt_ok, qt_ok, bt_ok, putC_si h, h, h1, h2, mixed_ok, putC_x h⟩
def putB (v : Int) : Nat → List UInt8
 | 0 => []
 | n + 1 => toB (IntKind.u8.wrap (v.fdiv (2 ^ (8 * n)))) :: putB v n
theorem putB_length (v : Int) : ∀ n, (putB v n).length = n
 | 0 => rfl
 | n + 1 => by rw [putB, List.length_cons, putB_length v n]
theorem put_exp (k : Nat) (h : k ≤ 7) : min ((8 * (k : Int) + 9223372036854775808) % 18446744073709551616 - 9223372036854775808).toNat IntKind.u64.bits = 8 * k := by
 show min _ 64 = _
 omega
theorem put_exp2 (k : Nat) (h : k ≤ 7) : min (IntKind.u64.wrap ((8 * (k : Int) + 9223372036854775808) % 18446744073709551616 - 9223372036854775808)).toNat IntKind.u64.bits = 8 * k := by
 rw [IntKind.wrap_u64]
 show min _ 64 = _
 omega
def putF (v w : Int) : List UInt8 := if 1 ≤ w ∧ w ≤ 8 then putB v w.toNat else []
abbrev putAs : List Shp := [.sl .byte, .int .u64, .int .i64]
abbrev putPre : Shp.Ds putAs → Prop := fun x => x.1.length ≤ 1000000000
theorem putF_le (v w : Int) : (putF v w).length ≤ 8 := by
 unfold putF
 split
 ·rw [putB_length]; omega
 ·simp
abbrev putPost : Shp.Ds putAs → Shp.Ds [.sl .byte] → Prop := fun x y => y.1 = x.1 ++ putF x.2.1 x.2.2.1 ∧ y.1.length ≤ x.1.length + 8
theorem wput_fn : hasFn Try.prog 29 := ⟨_, Try.func29, by rfl, by rfl⟩
theorem wput_sp {E : Env} (hE : E.ok) : SpecOk Try.prog E 29 (fnSpecT putAs [some 5, none, none] [.sl .byte] [.own 5] [] putPre putPost) := by
 refine spec_of_vcT (C := putC) wput_fn Try.func29 (by kernel_rfl) putC_cx (fun x hl hx => ?_) hE
 obtain ⟨l, v, w, u⟩ := x
 have h1 := hx
 dsimp only [Shp.D, Shp.Ds] at h1
 cbv
 (repeat' (first | ((with_reducible apply And.intro <;> intro h) <;> (first | with_reducible exact (tf h (by assumption)).elim | with_reducible exact (tf (by assumption) h).elim | cbv)) | ((with_reducible first | refine Cb.mk ?_ | refine Lz.mk ?_ | refine JoinT.left ?_ | (apply AllT.mk; intro x hx)); cbv) | ((with_reducible refine Ob.mk (fun _ => ?_) ?_); rotate_left 1) | (with_reducible first | refine Mg.mk (Exists.intro ?_ (And.intro ?_ ?_)) | rfl | refine Fin.mk ?_ | exact True.intro | refine And.intro ?_ ?_)))
 all_goals first
  | ((try dsimp only [Shp.D, Shp.Ds, Shp.dflt] at *); simp only [vem, veq, ne_eq, cmpI, arI, dvI, shI, SV.den, obLt, elemAt, obApp, partL, obPart, lowD, highD, mxOk, convL_self, zerosB, List.length_replicate, vln] at *; (try dsimp only [Shp.D, Shp.Ds, Shp.dflt, Shp.dflts] at *); first | omega | (rw [putF, if_neg (by omega), List.append_nil]; done))
  | skip
 with_reducible refine loop_hv [] (rangeN 17 12) [] [0] (fun z b t y => -1 ≤ z 7 ∧ z 7 ≤ w - 1 ∧ y 0 .byte ++ putB v (z 7 + 1).toNat = l ++ putB v w.toNat) (fun z b t y => (z 7 + 1).toNat) (by cbv) (by cbv) ?_ ?_ (fun z1 b1 t1 u1 y1 R1 hP1 hR1 => ?_)
 ·exact EndOk.au
 ·intro zq bq tq yq hUq
  have q7 := hUq.z 7
  have qy0 := hUq.y 0 (.byte)
  cbv at q7 qy0
  replace q7 := q7.eq
  replace qy0 := qy0.eq
  simp only [atI, atB, atT, atY, convL_self, vem, veq, ne_eq, cmpI, arI, dvI, shI, SV.den] at q7 qy0
  clear hUq
  try dsimp only [Shp.D, Shp.Ds, Shp.dflt] at *
  try simp only [vem, veq, ne_eq, cmpI, arI, dvI, shI, SV.den, convL_self] at *
  rw [← qy0]
  refine ⟨by omega, by omega, ?_⟩
  rw [show (zq 7 + 1).toNat = w.toNat by omega]
 obtain ⟨p1, p2, p3⟩ := hP1
 cbv
 (repeat' (first | ((with_reducible apply And.intro <;> intro h) <;> (first | with_reducible exact (tf h (by assumption)).elim | with_reducible exact (tf (by assumption) h).elim | cbv)) | ((with_reducible first | refine Cb.mk ?_ | refine Lz.mk ?_ | refine JoinT.left ?_ | (apply AllT.mk; intro x hx)); cbv) | ((with_reducible refine Ob.mk (fun _ => ?_) ?_); rotate_left 1) | (with_reducible first | refine Mg.mk (Exists.intro ?_ (And.intro ?_ ?_)) | rfl | refine Fin.mk ?_ | exact True.intro | refine And.intro ?_ ?_)))
 all_goals first | (with_reducible show Goes _ _ _ _; skip) | (clear hR1)
 ·with_reducible refine hR1 _ ?_ (fun zq bq tq yq hUq => ?_)
  ·exact EndOk.au
  have q7 := hUq.z 7
  have qy0 := hUq.y 0 (.byte)
  cbv at q7 qy0
  replace q7 := q7.eq
  replace qy0 := qy0.eq
  simp only [atI, atB, atT, atY, convL_self, vem, veq, ne_eq, cmpI, arI, dvI, shI, SV.den] at q7 qy0
  clear hUq hR1
  try dsimp only [Shp.D, Shp.Ds, Shp.dflt] at *
  try simp only [vem, veq, ne_eq, cmpI, arI, dvI, shI, SV.den, elemAt, convL_self] at *
  try dsimp only [Shp.D, Shp.Ds, Shp.dflt, Shp.dflts] at *
  obtain ⟨k, hk⟩ := Int.eq_ofNat_of_zero_le (show 0 ≤ z1 7 by omega)
  rw [hk] at qy0 q7 p3 p2
  rw [put_exp k (by omega)] at qy0
  refine ⟨⟨by omega, by omega, ?_⟩, by omega⟩
  rw [← qy0, show (zq 7 + 1).toNat = k by omega, ← p3, show ((k : Int) + 1).toNat = k + 1 by omega, putB, List.append_assoc]
  rfl
 all_goals (try dsimp only [Shp.D, Shp.Ds, Shp.dflt] at *); simp only [vem, veq, ne_eq, cmpI, arI, dvI, shI, SV.den, obLt, elemAt, obApp, partL, obPart, lowD, highD, mxOk, convL_self, zerosB, List.length_replicate, vln] at *; (try dsimp only [Shp.D, Shp.Ds, Shp.dflt, Shp.dflts] at *)
 all_goals first
  | (have e := congrArg List.length p3; simp only [List.length_append, putB_length] at e; omega)
  | (rw [show (z1 7 + 1).toNat = 0 by omega, putB, List.append_nil] at p3; rw [putF, if_pos (by omega)]; exact p3)
theorem rput_fn : hasFn Try.prog 21 := ⟨_, Try.func21, by rfl, by rfl⟩
theorem rput_sp {E : Env} (hE : E.ok) : SpecOk Try.prog E 21 (fnSpec putAs [.sl .byte] [5] putPre putPost) := by
 refine spec_of_vc (C := putC) rput_fn Try.func21 (by kernel_rfl) putC_cx (fun x hl hx => ?_) hE
 obtain ⟨l, v, w, u⟩ := x
 have h1 := hx
 dsimp only [Shp.D, Shp.Ds] at h1
 cbv
 (repeat' (first | ((with_reducible apply And.intro <;> intro h) <;> (first | with_reducible exact (tf h (by assumption)).elim | with_reducible exact (tf (by assumption) h).elim | cbv)) | ((with_reducible first | refine Cb.mk ?_ | refine Lz.mk ?_ | refine JoinT.left ?_ | (apply AllT.mk; intro x hx)); cbv) | ((with_reducible refine Ob.mk (fun _ => ?_) ?_); rotate_left 1) | (with_reducible first | refine Mg.mk (Exists.intro ?_ (And.intro ?_ ?_)) | rfl | refine Fin.mk ?_ | exact True.intro | refine And.intro ?_ ?_)))
 all_goals first
  | ((try dsimp only [Shp.D, Shp.Ds, Shp.dflt] at *); simp only [vem, veq, ne_eq, cmpI, arI, dvI, shI, SV.den, obLt, elemAt, obApp, partL, obPart, lowD, highD, mxOk, convL_self, zerosB, List.length_replicate, vln] at *; (try dsimp only [Shp.D, Shp.Ds, Shp.dflt, Shp.dflts] at *); first | omega | (simp only [List.length_nil]; omega) | (rw [List.nil_append, putF, if_neg (by omega), List.append_nil]; done))
  | ((try dsimp only [Shp.D, Shp.Ds, Shp.dflt] at *); simp only [vem, veq, ne_eq, cmpI, arI, dvI, shI, SV.den, obLt, elemAt, obApp, partL, obPart, lowD, highD, mxOk, convL_self, zerosB, List.length_replicate, vln] at *; (try dsimp only [Shp.D, Shp.Ds, Shp.dflt, Shp.dflts] at *); omega)
  | skip
 with_reducible refine loop_hv [] (10 :: rangeN 20 13) [] [1128] (fun z b t y => -1 ≤ z 8 ∧ z 8 ≤ w - 1 ∧ y 1128 .byte ++ putB v (z 8 + 1).toNat = l ++ putB v w.toNat) (fun z b t y => (z 8 + 1).toNat) (by cbv) (by cbv) ?_ ?_ (fun z1 b1 t1 u1 y1 R1 hP1 hR1 => ?_)
 ·exact EndOk.au
 ·intro zq bq tq yq hUq
  have q8 := hUq.z 8
  have qy1128 := hUq.y 1128 (.byte)
  cbv at q8 qy1128
  replace q8 := q8.eq
  replace qy1128 := qy1128.eq
  simp only [atI, atB, atT, atY, convL_self, vem, veq, ne_eq, cmpI, arI, dvI, shI, SV.den] at q8 qy1128
  clear hUq
  try dsimp only [Shp.D, Shp.Ds, Shp.dflt] at *
  try simp only [vem, veq, ne_eq, cmpI, arI, dvI, shI, SV.den, convL_self] at *
  rw [← qy1128, List.nil_append]
  refine ⟨by omega, by omega, ?_⟩
  rw [show (zq 8 + 1).toNat = w.toNat by omega]
 obtain ⟨p1, p2, p3⟩ := hP1
 cbv
 (repeat' (first | ((with_reducible apply And.intro <;> intro h) <;> (first | with_reducible exact (tf h (by assumption)).elim | with_reducible exact (tf (by assumption) h).elim | cbv)) | ((with_reducible first | refine Cb.mk ?_ | refine Lz.mk ?_ | refine JoinT.left ?_ | (apply AllT.mk; intro x hx)); cbv) | ((with_reducible refine Ob.mk (fun _ => ?_) ?_); rotate_left 1) | (with_reducible first | refine Mg.mk (Exists.intro ?_ (And.intro ?_ ?_)) | rfl | refine Fin.mk ?_ | exact True.intro | refine And.intro ?_ ?_)))
 all_goals first | (with_reducible show Goes _ _ _ _; skip) | (clear hR1)
 all_goals first
  | (with_reducible show Goes _ _ _ _; skip)
  | (((try dsimp only [Shp.D, Shp.Ds, Shp.dflt] at *); simp only [vem, veq, ne_eq, cmpI, arI, dvI, shI, SV.den, obLt, elemAt, obApp, partL, obPart, lowD, highD, mxOk, convL_self, zerosB, List.length_replicate, vln] at *; (try dsimp only [Shp.D, Shp.Ds, Shp.dflt, Shp.dflts] at *)) <;> (try simp only [Shp.lims, Shp.lim, IntKind.wrap_u64, IntKind.wrap_u8] at *) <;> omega)
  | skip
 ·with_reducible refine hR1 _ ?_ (fun zq bq tq yq hUq => ?_)
  ·exact EndOk.au
  have q8 := hUq.z 8
  have qy1128 := hUq.y 1128 (.byte)
  cbv at q8 qy1128
  replace q8 := q8.eq
  replace qy1128 := qy1128.eq
  simp only [atI, atB, atT, atY, convL_self, vem, veq, ne_eq, cmpI, arI, dvI, shI, SV.den] at q8 qy1128
  clear hUq hR1
  try dsimp only [Shp.D, Shp.Ds, Shp.dflt] at *
  try simp only [vem, veq, ne_eq, cmpI, arI, dvI, shI, SV.den, elemAt, convL_self] at *
  try dsimp only [Shp.D, Shp.Ds, Shp.dflt, Shp.dflts] at *
  obtain ⟨k, hk⟩ := Int.eq_ofNat_of_zero_le (show 0 ≤ z1 8 by omega)
  rw [hk] at qy1128 q8 p3 p2
  rw [put_exp2 k (by omega)] at qy1128
  refine ⟨⟨by omega, by omega, ?_⟩, by omega⟩
  rw [← qy1128, show (zq 8 + 1).toNat = k by omega, ← p3, show ((k : Int) + 1).toNat = k + 1 by omega, putB, List.append_assoc]
  rfl
 all_goals (try dsimp only [Shp.D, Shp.Ds, Shp.dflt] at *); simp only [vem, veq, ne_eq, cmpI, arI, dvI, shI, SV.den, obLt, elemAt, obApp, partL, obPart, lowD, highD, mxOk, convL_self, zerosB, List.length_replicate, vln] at *; (try dsimp only [Shp.D, Shp.Ds, Shp.dflt, Shp.dflts] at *)
 all_goals first
  | (have e := congrArg List.length p3; simp only [List.length_append, putB_length] at e; omega)
  | (rw [show (z1 8 + 1).toNat = 0 by omega, putB, List.append_nil] at p3; rw [putF, if_pos (by omega)]; exact p3)
  | omega
end Go.Proofs.Ytkeefgiajogkkaa.V
