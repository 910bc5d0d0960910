/- Contracts: what is drawn. -/
import Derived.Test.YtkeefgiajogkkaaVd
import Derived.Test.YtkeefgiajogkkaaVty
set_option linter.unusedVariables false
set_option linter.unusedSimpArgs false
namespace Go.Proofs.Ytkeefgiajogkkaa.V
open Go.RowKit
set_option maxHeartbeats 8000000
set_option maxRecDepth 100000
def nxC_t : SpecT := lf0 11 (drSpec 49 [.int .i64] [.int .i64] [] nextPre nextPost)
def nxC : Cx := ⟨tt, qt, bt, st, nxC_t, 0, 1000000000000000, fun _ => none, false, CxE.no, []⟩
theorem nxC_si {E : Env} (h : E.ok) : SpecsOk Try.prog E (CxE.no) nxC_t (fun _ => none) := ⟨(lf0_ok (.inl (next_sp h))), noI_ok _ _ _⟩
theorem nxC_x {E : Env} (h : E.ok) : CxEOk Try.prog E (CxE.no) := CxE.no_ok _ _
theorem nxC_cx (E : Env) (h : E.ok) (h1 : E.lo = 0) (h2 : E.hi = 1000000000000000) : Cx.ok nxC Try.prog E := ⟨tt_ok, qt_ok, bt_ok, nxC_si h, h, h1, h2, mixed_ok, nxC_x h⟩
theorem nxC_from (lo hi : Nat) (E : Env) (h : E.ok) (h1 : E.lo = lo) (h2 : E.hi = hi) : Cx.ok (Cx.from nxC lo hi) Try.prog E := ⟨tt_ok, qt_ok, bt_ok, nxC_si h, h, h1, h2, mixed_ok, nxC_x h⟩
theorem u64_in (x : Int) : 0 ≤ IntKind.u64.wrap x ∧ IntKind.u64.wrap x ≤ 18446744073709551615 := by rw [IntKind.wrap_u64]; omega
theorem selI_in (l : List Int) (x lo hi : Int) (h : l.all (fun v => decide (lo ≤ v) && decide (v ≤ hi)) = true) (n : Int) (hn' : (l.length : Int) = n) (h0 : 0 ≤ x) (h1 : x < n) : lo ≤ selI l x ∧ selI l x ≤ hi := by
 unfold selI
 obtain ⟨n, rfl⟩ := Int.eq_ofNat_of_zero_le h0
 have hn : n < l.length := by omega
 have hm : l.getD n 0 ∈ l := by rw [List.getD_eq_getElem?_getD, List.getElem?_eq_getElem hn]; exact List.getElem_mem hn
 have := (List.all_eq_true.1 h) _ hm
 simpa using this
theorem bits_u64 (op : BinOp) (x y : Int) : 0 ≤ bits op .u64 x y ∧ bits op .u64 x y ≤ 18446744073709551615 := by unfold bits; exact u64_in _
theorem int_fn : hasFn Try.prog 28 := ⟨_, Try.func28, by rfl, by rfl⟩
abbrev i64Post (y : Shp.Ds [.int .i64]) : Prop := -9223372036854775808 ≤ y.1 ∧ y.1 ≤ 9223372036854775807
theorem int_sp {E : Env} (hE : E.ok) : SpecOk Try.prog E 28 (drSpec 49 [] [.int .i64] [] (fun _ => True) (fun _ => i64Post)) := by
 refine spec_of_vcD (C := nxC) int_fn Try.func28 (by kernel_rfl) nxC_cx (fun x hl hx => ?_) hE
 obtain ⟨⟩ := x
 cbv
 (repeat' (first | ((with_reducible apply And.intro <;> intro h) <;> (first | with_reducible exact (tf h (by assumption)).elim | with_reducible exact (tf (by assumption) h).elim | cbv)) | ((with_reducible first | refine Cb.mk ?_ | refine Lz.mk ?_ | refine JoinT.left ?_ | (apply AllT.mk; intro x hx)); cbv) | ((with_reducible refine Ob.mk (fun _ => ?_) ?_); rotate_left 1) | (with_reducible first | refine Mg.mk (Exists.intro ?_ (And.intro ?_ ?_)) | rfl | refine Fin.mk ?_ | exact True.intro | refine And.intro ?_ ?_)))
 all_goals first
  | (((try dsimp only [Shp.D, Shp.Ds, Shp.dflt] at *); simp only [vem, veq, ne_eq, cmpI, arI, dvI, shI, SV.den, obLt, elemAt, obApp, partL, obPart, lowD, highD, mxOk, convL_self, zerosB, List.length_replicate, vln] at *; (try dsimp only [Shp.D, Shp.Ds, Shp.dflt, Shp.dflts] at *)) <;> (try simp only [Shp.lims, Shp.lim, IntKind.wrap_u64, IntKind.wrap_u8] at *) <;> omega)
  | skip
 all_goals
  have hs := selI_in [9223372036854775807, -9223372036854775808, 65535, 65536, 255, 256, -1, -2, 0, 4294967296, 16384, 37] x.1 (-9223372036854775808) 9223372036854775807 (by decide) 12 (by decide)
  (((try dsimp only [Shp.D, Shp.Ds, Shp.dflt] at *); simp only [vem, veq, ne_eq, cmpI, arI, dvI, shI, SV.den, obLt, elemAt, obApp, partL, obPart, lowD, highD, mxOk, convL_self, zerosB, List.length_replicate, vln] at *; (try dsimp only [Shp.D, Shp.Ds, Shp.dflt, Shp.dflts] at *)) <;> (try simp only [Shp.lims, Shp.lim, IntKind.wrap_u64, IntKind.wrap_u8] at *) <;> omega)
theorem bytes_fn : hasFn Try.prog 22 := ⟨_, Try.func22, by rfl, by rfl⟩
theorem bytes_sp {E : Env} (hE : E.ok) : SpecOk Try.prog E 22 (drSpec 49 [.int .i64] [.sl .byte] [.own 5] (fun x => x.1 ≤ 1048576) (fun x y => (y.1.length : Int) = max 0 x.1)) := by
 refine spec_of_vcD (C := nxC) bytes_fn Try.func22 (by kernel_rfl) nxC_cx (fun x hl hx => ?_) hE
 obtain ⟨n, u⟩ := x
 simp only [Shp.lims, Shp.lim] at hl hx
 cbv
 (repeat' (first | ((with_reducible apply And.intro <;> intro h) <;> (first | with_reducible exact (tf h (by assumption)).elim | with_reducible exact (tf (by assumption) h).elim | cbv)) | ((with_reducible first | refine Cb.mk ?_ | refine Lz.mk ?_ | refine JoinT.left ?_ | (apply AllT.mk; intro x hx)); cbv) | ((with_reducible refine Ob.mk (fun _ => ?_) ?_); rotate_left 1) | (with_reducible first | refine Mg.mk (Exists.intro ?_ (And.intro ?_ ?_)) | rfl | refine Fin.mk ?_ | exact True.intro | refine And.intro ?_ ?_)))
 all_goals first
  | (((try dsimp only [Shp.D, Shp.Ds, Shp.dflt] at *); simp only [vem, veq, ne_eq, cmpI, arI, dvI, shI, SV.den, obLt, elemAt, obApp, partL, obPart, lowD, highD, mxOk, convL_self, zerosB, List.length_replicate, vln] at *; (try dsimp only [Shp.D, Shp.Ds, Shp.dflt, Shp.dflts] at *)) <;> (try simp only [Shp.lims, Shp.lim, IntKind.wrap_u64, IntKind.wrap_u8] at *) <;> omega)
  | skip
 with_reducible refine loop_hv [(5, 900, 5, .byte)] (rangeN 7 14) [] [900] (fun z b t y => 0 ≤ z 6 ∧ (y 900 .byte).length = z 6 ∧ (z 6 ≤ n ∨ z 6 = 0)) (fun z b t y => (n - z 6).toNat) (by cbv) (by cbv) ?_ ?_ (fun z1 b1 t1 u1 y1 R1 hP1 hR1 => ?_)
 ·exact EndOk.au
 ·intro zq bq tq yq hUq
  have q6 := hUq.z 6
  have qy900 := hUq.y 900 (.byte)
  cbv at q6 qy900
  replace q6 := q6.eq
  replace qy900 := qy900.eq
  simp only [atI, atB, atT, atY, convL_self, vem, veq, ne_eq, cmpI, arI, dvI, shI, SV.den] at q6 qy900
  clear hUq
  try dsimp only [Shp.D, Shp.Ds, Shp.dflt] at *
  try simp only [vem, veq, ne_eq, cmpI, arI, dvI, shI, SV.den, convL_self] at *
  rw [← qy900, ← q6]
  simp
 cbv
 (repeat' (first | ((with_reducible apply And.intro <;> intro h) <;> (first | with_reducible exact (tf h (by assumption)).elim | with_reducible exact (tf (by assumption) h).elim | cbv)) | ((with_reducible first | refine Cb.mk ?_ | refine Lz.mk ?_ | refine JoinT.left ?_ | (apply AllT.mk; intro x hx)); cbv) | ((with_reducible refine Ob.mk (fun _ => ?_) ?_); rotate_left 1) | (with_reducible first | refine Mg.mk (Exists.intro ?_ (And.intro ?_ ?_)) | rfl | refine Fin.mk ?_ | exact True.intro | refine And.intro ?_ ?_)))
 all_goals first | (with_reducible show Goes _ _ _ _; skip) | (clear hR1)
 ·with_reducible refine hR1 _ ?_ (fun zq bq tq yq hUq => ?_)
  ·exact EndOk.au
  have q6 := hUq.z 6
  have qy900 := hUq.y 900 (.byte)
  cbv at q6 qy900
  replace q6 := q6.eq
  replace qy900 := qy900.eq
  simp only [atI, atB, atT, atY, convL_self, vem, veq, ne_eq, cmpI, arI, dvI, shI, SV.den] at q6 qy900
  clear hUq hR1
  try dsimp only [Shp.D, Shp.Ds, Shp.dflt] at *
  try simp only [vem, veq, ne_eq, cmpI, arI, dvI, shI, SV.den, elemAt, convL_self] at *
  try dsimp only [Shp.D, Shp.Ds, Shp.dflt, Shp.dflts] at *
  rw [← qy900]
  simp only [List.length_append, List.length_cons, List.length_nil]
  omega
 all_goals first
  | (((try dsimp only [Shp.D, Shp.Ds, Shp.dflt] at *); simp only [vem, veq, ne_eq, cmpI, arI, dvI, shI, SV.den, obLt, elemAt, obApp, partL, obPart, lowD, highD, mxOk, convL_self, zerosB, List.length_replicate, vln] at *; (try dsimp only [Shp.D, Shp.Ds, Shp.dflt, Shp.dflts] at *)) <;> (try simp only [Shp.lims, Shp.lim, IntKind.wrap_u64, IntKind.wrap_u8] at *) <;> omega)
  | skip
end Go.Proofs.Ytkeefgiajogkkaa.V
