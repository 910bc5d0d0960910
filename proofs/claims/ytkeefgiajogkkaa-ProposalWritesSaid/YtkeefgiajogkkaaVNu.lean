/- Contracts: parts of bytes and numbers in bytes. -/
import Derived.Test.YtkeefgiajogkkaaVf
set_option linter.unusedVariables false
set_option linter.unusedSimpArgs false
namespace Go.Proofs.Ytkeefgiajogkkaa.V
open Go.RowKit
set_option maxHeartbeats 8000000
set_option maxRecDepth 100000
def nuC_t : SpecT := fun _ => none
def nuC : Cx := ⟨tt, qt, bt, st, nuC_t, 0, 1000000000000000, fun _ => none, false, CxE.no, []⟩
theorem nuC_si {E : Env} (h : E.ok) : SpecsOk Try.prog E (CxE.no) nuC_t (fun _ => none) := ⟨(fun t f h => by cases h), noI_ok _ _ _⟩
theorem nuC_x {E : Env} (h : E.ok) : CxEOk Try.prog E (CxE.no) := CxE.no_ok _ _
theorem nuC_cx (E : Env) (h : E.ok) (h1 : E.lo = 0) (h2 : E.hi = 1000000000000000) : Cx.ok nuC Try.prog E := ⟨tt_ok, qt_ok, bt_ok, nuC_si h, h, h1, h2, mixed_ok, nuC_x h⟩
theorem nuC_from (lo hi : Nat) (E : Env) (h : E.ok) (h1 : E.lo = lo) (h2 : E.hi = hi) : Cx.ok (Cx.from nuC lo hi) Try.prog E := ⟨tt_ok, qt_ok, bt_ok, nuC_si h, h, h1, h2, mixed_ok, nuC_x h⟩
def cutOk (l : List UInt8) (a n : Int) : Bool := decide (0 ≤ a ∧ 0 ≤ n ∧ a + n ≤ l.length)
def cutF (l : List UInt8) (a n : Int) : List UInt8 := if 0 ≤ a ∧ 0 ≤ n ∧ a + n ≤ l.length then (l.drop a.toNat).take n.toNat else []
abbrev sliAs : List Shp := [.sl .byte, .int .i64, .int .i64]
abbrev sliSp : Spec := fnSpecT sliAs [none, none, none] [.sl .byte, .bool] [.sh] [0] (fun _ => True) fun x y => y.1 = cutF x.1 x.2.1 x.2.2.1 ∧ y.2.1 = cutOk x.1 x.2.1 x.2.2.1
theorem wsl_fn : hasFn Try.prog 44 := ⟨_, Try.func44, by rfl, by rfl⟩
theorem wsl_sp {E : Env} (hE : E.ok) : SpecOk Try.prog E 44 sliSp := by
 refine spec_of_vcT (C := nuC) wsl_fn Try.func44 (by kernel_rfl) nuC_cx (fun x hl hx => ?_) hE
 obtain ⟨l, a, n, u⟩ := x
 simp only [Shp.lims, Shp.lim] at hl hx
 cbv
 (repeat' (first | ((with_reducible apply And.intro <;> intro h) <;> (first | with_reducible exact (tf h (by assumption)).elim | with_reducible exact (tf (by assumption) h).elim | cbv)) | ((with_reducible first | refine Cb.mk ?_ | refine Lz.mk ?_ | refine JoinT.left ?_ | (apply AllT.mk; intro x hx)); cbv) | ((with_reducible refine Ob.mk (fun _ => ?_) ?_); rotate_left 1) | (with_reducible first | refine Mg.mk (Exists.intro ?_ (And.intro ?_ ?_)) | rfl | refine Fin.mk ?_ | exact True.intro | refine And.intro ?_ ?_)))
 all_goals (try dsimp only [Shp.D, Shp.Ds, Shp.dflt] at *); simp only [vem, veq, ne_eq, cmpI, arI, dvI, shI, SV.den, obLt, elemAt, obApp, partL, obPart, lowD, highD, mxOk, convL_self, zerosB, List.length_replicate, vln] at *; (try dsimp only [Shp.D, Shp.Ds, Shp.dflt, Shp.dflts] at *)
 all_goals first
  | omega
  | (rw [cutF, if_neg (by omega)]; done)
  | (rw [cutOk]; symm; rw [decide_eq_false_iff_not]; omega)
  | (rw [cutF, if_pos (by omega), show (IntKind.i64.wrap (a + n)).toNat - a.toNat = n.toNat by (rw [IntKind.wrap_i64]; omega)]; done)
  | (rw [cutF, if_pos (by omega), show ((a + n + 9223372036854775808) % 18446744073709551616 - 9223372036854775808).toNat - a.toNat = n.toNat by omega]; done)
  | (rw [cutOk]; symm; rw [decide_eq_true_iff]; omega)
  | skip
def numF (l : List UInt8) (a w : Int) : Int × Bool := if 1 ≤ w ∧ w ≤ 8 ∧ 0 ≤ a ∧ a + w ≤ l.length then (num ((l.drop a.toNat).take w.toNat), true) else (0, false)
theorem getD_drop (l : List UInt8) (a k : Nat) (h : a + k < l.length) : ((l.drop a).take (k + 1)) = (l.drop a).take k ++ [l.getD (a + k) 0] := by
 have hk : k < (l.drop a).length := by rw [List.length_drop]; omega
 rw [List.take_succ_eq_append_getElem hk, List.getElem_drop]
 simp [List.getD_eq_getElem?_getD, List.getElem?_eq_getElem h]
theorem or_byte (v : Nat) (x : UInt8) (h : v * 256 + x.toNat < 18446744073709551616) : bits .or .u64 (IntKind.u64.wrap ((v : Int) * 2 ^ min (Int.toNat 8) IntKind.u64.bits)) (IntKind.u64.wrap (x.toNat : Int)) = ((v * 256 + x.toNat : Nat) : Int) := or_step v x.toNat h x.toNat_lt
theorem numF_nn (l : List UInt8) (a w : Int) : 0 ≤ (numF l a w).1 := by
 unfold numF
 split <;> simp
theorem numF_lt (l : List UInt8) (a w : Int) (k : Nat) (hw : w ≤ k) : (numF l a w).1 < 256 ^ k := by
 unfold numF
 split
 ·have h1 := num_lt ((l.drop a.toNat).take w.toNat)
  have h2 : 256 ^ ((l.drop a.toNat).take w.toNat).length ≤ 256 ^ k := Nat.pow_le_pow_right (by omega) (by have := List.length_take_le w.toNat (l.drop a.toNat); omega)
  have h3 : num ((l.drop a.toNat).take w.toNat) < 256 ^ k := by omega
  show ((num ((l.drop a.toNat).take w.toNat) : Nat) : Int) < 256 ^ k
  exact_mod_cast h3
 ·show (0 : Int) < 256 ^ k
  exact Int.pow_pos (by omega)
abbrev numAs : List Shp := [.sl .byte, .int .i64, .int .i64]
abbrev numRs : List Shp := [.int .u64, .bool]
abbrev numSp : Spec := fnFn numAs numRs (fun x => -9223372036854775808 ≤ x.2.1 ∧ x.2.1 ≤ 9223372036854775807) fun x => ((numF x.1 x.2.1 x.2.2.1).1, (numF x.1 x.2.1 x.2.2.1).2, ())
theorem num_eq {x : Shp.Ds numAs} {y : Shp.Ds numRs} (h : numF x.1 x.2.1 x.2.2.1 = (y.1, y.2.1)) : y = ((numF x.1 x.2.1 x.2.2.1).1, (numF x.1 x.2.1 x.2.2.1).2, ()) := by
 obtain ⟨a, b, u⟩ := y
 rw [h]
theorem rnum_fn : hasFn Try.prog 45 := ⟨_, Try.func45, by rfl, by rfl⟩
theorem rnum_sp0 {E : Env} (hE : E.ok) : SpecOk Try.prog E 45 (fnSpec numAs numRs [] (fun x => -9223372036854775808 ≤ x.2.1 ∧ x.2.1 ≤ 9223372036854775807) fun x y => numF x.1 x.2.1 x.2.2.1 = (y.1, y.2.1)) := by
 refine spec_of_vc (C := nuC) rnum_fn Try.func45 (by kernel_rfl) nuC_cx (fun x hl hx => ?_) hE
 obtain ⟨l, at_, width, u⟩ := x
 simp only [Shp.lims, Shp.lim] at hl hx
 cbv
 (repeat' (first | ((with_reducible apply And.intro <;> intro h) <;> (first | with_reducible exact (tf h (by assumption)).elim | with_reducible exact (tf (by assumption) h).elim | cbv)) | ((with_reducible first | refine Cb.mk ?_ | refine Lz.mk ?_ | refine JoinT.left ?_ | (apply AllT.mk; intro x hx)); cbv) | ((with_reducible refine Ob.mk (fun _ => ?_) ?_); rotate_left 1) | (with_reducible first | refine Mg.mk (Exists.intro ?_ (And.intro ?_ ?_)) | rfl | refine Fin.mk ?_ | exact True.intro | refine And.intro ?_ ?_)))
 all_goals first
  | ((try dsimp only [Shp.D, Shp.Ds, Shp.dflt] at *); simp only [vem, veq, ne_eq, cmpI, arI, dvI, shI, SV.den, obLt, elemAt, obApp, partL, obPart, lowD, highD, mxOk, convL_self, zerosB, List.length_replicate, vln] at *; (try dsimp only [Shp.D, Shp.Ds, Shp.dflt, Shp.dflts] at *); rw [numF, if_neg (by omega)]; done)
  | skip
 with_reducible refine loop_hv [] (rangeN 35 16) [] [] (fun z b t y => at_ ≤ z 9 ∧ z 9 ≤ at_ + width ∧ z 8 = num ((l.drop at_.toNat).take (z 9 - at_).toNat)) (fun z b t y => (at_ + width - z 9).toNat) (by cbv) (by cbv) ?_ ?_ (fun z1 b1 t1 u1 y1 R1 hP1 hR1 => ?_)
 ·exact EndOk.au
 ·intro zq bq tq yq hUq
  have q8 := hUq.z 8
  have q9 := hUq.z 9
  cbv at q8 q9
  replace q8 := q8.eq
  replace q9 := q9.eq
  simp only [atI, atB, atT, atY, convL_self, vem, veq, ne_eq, cmpI, arI, dvI, shI, SV.den] at q8 q9
  clear hUq
  try dsimp only [Shp.D, Shp.Ds, Shp.dflt] at *
  try simp only [vem, veq, ne_eq, cmpI, arI, dvI, shI, SV.den, convL_self] at *
  subst q9
  rw [← q8]
  refine ⟨by omega, by omega, by simp [num]⟩
 cbv
 (repeat' (first | ((with_reducible apply And.intro <;> intro h) <;> (first | with_reducible exact (tf h (by assumption)).elim | with_reducible exact (tf (by assumption) h).elim | cbv)) | ((with_reducible first | refine Cb.mk ?_ | refine Lz.mk ?_ | refine JoinT.left ?_ | (apply AllT.mk; intro x hx)); cbv) | ((with_reducible refine Ob.mk (fun _ => ?_) ?_); rotate_left 1) | (with_reducible first | refine Mg.mk (Exists.intro ?_ (And.intro ?_ ?_)) | rfl | refine Fin.mk ?_ | exact True.intro | refine And.intro ?_ ?_)))
 all_goals first | (with_reducible show Goes _ _ _ _; skip) | (clear hR1)
 ·with_reducible refine hR1 _ ?_ (fun zq bq tq yq hUq => ?_)
  ·exact EndOk.au
  have q8 := hUq.z 8
  have q9 := hUq.z 9
  cbv at q8 q9
  replace q8 := q8.eq
  replace q9 := q9.eq
  simp only [atI, atB, atT, atY, convL_self, vem, veq, ne_eq, cmpI, arI, dvI, shI, SV.den] at q8 q9
  clear hUq hR1
  try dsimp only [Shp.D, Shp.Ds, Shp.dflt] at *
  try simp only [vem, veq, ne_eq, cmpI, arI, dvI, shI, SV.den, elemAt, convL_self] at *
  try dsimp only [Shp.D, Shp.Ds, Shp.dflt, Shp.dflts] at *
  obtain ⟨p1, p2, p3⟩ := hP1
  obtain ⟨a, rfl⟩ := Int.eq_ofNat_of_zero_le (show 0 ≤ at_ by omega)
  obtain ⟨i, hi⟩ := Int.eq_ofNat_of_zero_le (show 0 ≤ z1 9 by omega)
  obtain ⟨k, rfl⟩ : ∃ k, i = a + k := ⟨i - a, by omega⟩
  have hk : a + k < l.length := by omega
  have hg := getD_drop l a k hk
  have hlt := num_take_lt (l.drop a) k 8 (by omega) (by omega) (l.getD (a + k) 0)
  have e1 : zq 9 = ((a + k + 1 : Nat) : Int) := by omega
  rw [hi, show ((a + k : Nat) : Int) - (a : Int) = (k : Int) from by omega] at p3
  simp only [Int.toNat_natCast] at p3
  rw [p3, hi, Int.toNat_natCast, or_byte _ _ hlt] at q8
  refine ⟨⟨by omega, by omega, ?_⟩, by omega⟩
  rw [e1, show ((a + k + 1 : Nat) : Int) - (a : Int) = ((k + 1 : Nat) : Int) from by omega]
  simp only [Int.toNat_natCast]
  rw [hg, num_snoc]
  exact q8.symm
 all_goals first
  | ((try dsimp only [Shp.D, Shp.Ds, Shp.dflt] at *); simp only [vem, veq, ne_eq, cmpI, arI, dvI, shI, SV.den, obLt, elemAt, obApp, partL, obPart, lowD, highD, mxOk, convL_self, zerosB, List.length_replicate, vln] at *; (try dsimp only [Shp.D, Shp.Ds, Shp.dflt, Shp.dflts] at *); omega)
  | skip
 (try dsimp only [Shp.D, Shp.Ds, Shp.dflt] at *); simp only [vem, veq, ne_eq, cmpI, arI, dvI, shI, SV.den, obLt, elemAt, obApp, partL, obPart, lowD, highD, mxOk, convL_self, zerosB, List.length_replicate, vln] at *; (try dsimp only [Shp.D, Shp.Ds, Shp.dflt, Shp.dflts] at *)
 obtain ⟨p1, p2, p3⟩ := hP1
 rw [numF, if_pos (by omega), p3, show z1 9 - at_ = width from by omega]
theorem rnum_sp {E : Env} (hE : E.ok) : SpecOk Try.prog E 45 numSp := fnFn_of (rnum_sp0 hE) fun _ _ h => num_eq h
def wnC_t : SpecT := lf0 44 (sliSp)
def wnC : Cx := ⟨tt, qt, bt, st, wnC_t, 0, 1000000000000000, fun _ => none, false, CxE.no, []⟩
theorem wnC_si {E : Env} (h : E.ok) : SpecsOk Try.prog E (CxE.no) wnC_t (fun _ => none) := ⟨(lf0_ok (.inl (wsl_sp h))), noI_ok _ _ _⟩
theorem wnC_x {E : Env} (h : E.ok) : CxEOk Try.prog E (CxE.no) := CxE.no_ok _ _
theorem wnC_cx (E : Env) (h : E.ok) (h1 : E.lo = 0) (h2 : E.hi = 1000000000000000) : Cx.ok wnC Try.prog E := ⟨tt_ok, qt_ok, bt_ok, wnC_si h, h, h1, h2, mixed_ok, wnC_x h⟩
theorem wnC_from (lo hi : Nat) (E : Env) (h : E.ok) (h1 : E.lo = lo) (h2 : E.hi = hi) : Cx.ok (Cx.from wnC lo hi) Try.prog E := ⟨tt_ok, qt_ok, bt_ok, wnC_si h, h, h1, h2, mixed_ok, wnC_x h⟩
theorem wnum_fn : hasFn Try.prog 43 := ⟨_, Try.func43, by rfl, by rfl⟩
theorem wnum_sp0 {E : Env} (hE : E.ok) : SpecOk Try.prog E 43 (fnSpec numAs numRs [] (fun x => -9223372036854775808 ≤ x.2.1 ∧ x.2.1 ≤ 9223372036854775807) fun x y => numF x.1 x.2.1 x.2.2.1 = (y.1, y.2.1)) := by
 refine spec_of_vc (C := wnC) wnum_fn Try.func43 (by kernel_rfl) wnC_cx (fun x hl hx => ?_) hE
 obtain ⟨l, at_, width, u⟩ := x
 simp only [Shp.lims, Shp.lim] at hl hx
 cbv
 (repeat' (first | ((with_reducible apply And.intro <;> intro h) <;> (first | with_reducible exact (tf h (by assumption)).elim | with_reducible exact (tf (by assumption) h).elim | cbv)) | ((with_reducible first | refine Cb.mk ?_ | refine Lz.mk ?_ | refine JoinT.left ?_ | (apply AllT.mk; intro x hx)); cbv) | ((with_reducible refine Ob.mk (fun _ => ?_) ?_); rotate_left 1) | (with_reducible first | refine Mg.mk (Exists.intro ?_ (And.intro ?_ ?_)) | rfl | refine Fin.mk ?_ | exact True.intro | refine And.intro ?_ ?_)))
 all_goals first | (with_reducible show (∃ _, unr _ _ _ _ _ _); skip) | (with_reducible show UnrI _ _ _ _ _; skip) | (with_reducible show Goes _ _ _ _; skip) | (with_reducible show JoinT _ _ _ _ _ _ _; skip) | (first | ((try dsimp only [Shp.D, Shp.Ds, Shp.dflt] at *); simp only [vem, veq, ne_eq, cmpI, arI, dvI, shI, SV.den, obLt, elemAt, obApp, partL, obPart, lowD, highD, mxOk, convL_self, zerosB, List.length_replicate, vln] at *; (try dsimp only [Shp.D, Shp.Ds, Shp.dflt, Shp.dflts] at *); rw [numF, if_neg (by omega)]; done) | ((try dsimp only [Shp.D, Shp.Ds, Shp.dflt] at *); simp only [vem, veq, ne_eq, cmpI, arI, dvI, shI, SV.den, obLt, elemAt, obApp, partL, obPart, lowD, highD, mxOk, convL_self, zerosB, List.length_replicate, vln] at *; (try dsimp only [Shp.D, Shp.Ds, Shp.dflt, Shp.dflts] at *); have h2 : x.snd.fst = false := (by simpa using h); have e := hx.1.2; rw [h2, cutOk, eq_comm, decide_eq_false_iff_not] at e; rw [numF, if_neg (by omega)]))
 have e := hx.1.2
 have e2 := hx.1.1
 have e3 := h
 have w1 := ‹(BE.cmp BinOp.lss _ _).den = false›
 have w2 := ‹(BE.cmp BinOp.gtr _ _).den = false›
 dsimp only [Shp.D, Shp.Ds, Shp.dflt] at e e2 e3 w1 w2
 simp only [vem, veq, ne_eq, cmpI, arI, dvI, shI, SV.den, convL_self] at e e2 e3 w1 w2
 replace e3 : x.2.1 = true := by simpa using e3
 rw [e3, cutOk, eq_comm, decide_eq_true_iff] at e
 rw [cutF, if_pos e] at e2
 have e4 : x.1.length = width.toNat := by rw [e2, List.length_take, List.length_drop]; omega
 with_reducible refine loop_hv [] (12 :: rangeN 31 9) [] [] (fun z b t y => 0 ≤ z 30 ∧ z 30 ≤ width ∧ z 10 = num (x.1.take (z 30).toNat)) (fun z b t y => (width - z 30).toNat) (by cbv) (by cbv) ?_ ?_ (fun z1 b1 t1 u1 y1 R1 hP1 hR1 => ?_)
 ·exact EndOk.au
 ·intro zq bq tq yq hUq
  have q10 := hUq.z 10
  have q30 := hUq.z 30
  cbv at q10 q30
  replace q10 := q10.eq
  replace q30 := q30.eq
  simp only [atI, atB, atT, atY, convL_self, vem, veq, ne_eq, cmpI, arI, dvI, shI, SV.den] at q10 q30
  clear hUq
  try dsimp only [Shp.D, Shp.Ds, Shp.dflt] at *
  try simp only [vem, veq, ne_eq, cmpI, arI, dvI, shI, SV.den, convL_self] at *
  rw [← q10, ← q30]
  refine ⟨by omega, by omega, by simp [num]⟩
 cbv
 (repeat' (first | ((with_reducible apply And.intro <;> intro h) <;> (first | with_reducible exact (tf h (by assumption)).elim | with_reducible exact (tf (by assumption) h).elim | cbv)) | ((with_reducible first | refine Cb.mk ?_ | refine Lz.mk ?_ | refine JoinT.left ?_ | (apply AllT.mk; intro x hx)); cbv) | ((with_reducible refine Ob.mk (fun _ => ?_) ?_); rotate_left 1) | (with_reducible first | refine Mg.mk (Exists.intro ?_ (And.intro ?_ ?_)) | rfl | refine Fin.mk ?_ | exact True.intro | refine And.intro ?_ ?_)))
 all_goals first | (with_reducible show Goes _ _ _ _; skip) | (clear hR1)
 ·with_reducible refine hR1 _ ?_ (fun zq bq tq yq hUq => ?_)
  ·exact EndOk.au
  have q10 := hUq.z 10
  have q30 := hUq.z 30
  cbv at q10 q30
  replace q10 := q10.eq
  replace q30 := q30.eq
  simp only [atI, atB, atT, atY, convL_self, vem, veq, ne_eq, cmpI, arI, dvI, shI, SV.den] at q10 q30
  clear hUq hR1
  try dsimp only [Shp.D, Shp.Ds, Shp.dflt] at *
  try simp only [vem, veq, ne_eq, cmpI, arI, dvI, shI, SV.den, elemAt, convL_self] at *
  try dsimp only [Shp.D, Shp.Ds, Shp.dflt, Shp.dflts] at *
  obtain ⟨p1, p2, p3⟩ := hP1
  obtain ⟨k, hk⟩ := Int.eq_ofNat_of_zero_le p1
  have hk2 : k < x.1.length := by omega
  have hg := getD_drop x.1 0 k (by omega)
  have hlt := num_take_lt x.1 k 8 (by omega) (by omega) (x.1.getD k 0)
  simp only [List.drop_zero, Nat.zero_add] at hg
  rw [hk, Int.toNat_natCast] at p3
  rw [p3, hk, Int.toNat_natCast, or_byte _ _ hlt] at q10
  refine ⟨⟨by omega, by omega, ?_⟩, by omega⟩
  rw [show (zq 30).toNat = k + 1 by omega, hg, num_snoc]
  exact q10.symm
 all_goals first
  | ((try dsimp only [Shp.D, Shp.Ds, Shp.dflt] at *); simp only [vem, veq, ne_eq, cmpI, arI, dvI, shI, SV.den, obLt, elemAt, obApp, partL, obPart, lowD, highD, mxOk, convL_self, zerosB, List.length_replicate, vln] at *; (try dsimp only [Shp.D, Shp.Ds, Shp.dflt, Shp.dflts] at *); omega)
  | skip
 (try dsimp only [Shp.D, Shp.Ds, Shp.dflt] at *); simp only [vem, veq, ne_eq, cmpI, arI, dvI, shI, SV.den, obLt, elemAt, obApp, partL, obPart, lowD, highD, mxOk, convL_self, zerosB, List.length_replicate, vln] at *; (try dsimp only [Shp.D, Shp.Ds, Shp.dflt, Shp.dflts] at *)
 obtain ⟨p1, p2, p3⟩ := hP1
 rw [numF, if_pos (by omega), ← e2, p3, List.take_of_length_le (by omega)]
theorem wnum_sp {E : Env} (hE : E.ok) : SpecOk Try.prog E 43 numSp := fnFn_of (wnum_sp0 hE) fun _ _ h => num_eq h
end Go.Proofs.Ytkeefgiajogkkaa.V
