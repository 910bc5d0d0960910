/- ref14: Multiply (printed by wip/genq.py). -/
import Derived.Test.YtihnagafldpbnaaVQc
import Derived.Test.YtihnagafldpbnaaVQf
import Derived.Test.YtihnagafldpbnaaVQe
import Derived.Test.YtihnagafldpbnaaVUt
set_option linter.unusedVariables false
set_option linter.unusedSimpArgs false
namespace Go.Proofs.Ytihnagafldpbnaa.V
open Go.RowKit
set_option maxHeartbeats 80000000
set_option maxRecDepth 100000
def fxC_t : SpecT := nd0 27 (nd0 25 (lf0 24 (decSpF)) (nd0 26 (lf0 25 (addSpF)) (lf0 26 (subSpF)))) (nd0 29 (nd0 28 (lf0 27 (mulSpF)) (lf0 28 (smaSpF))) (nd0 30 (lf0 29 (redSpF)) (lf0 30 (invSpF))))
def fxC : Cx := ⟨tt, qt, bt, st, fxC_t, 0, 1000000000000000, fun _ => none, false, CxE.no, []⟩
theorem fxC_si {E : Env} (h : E.ok) : SpecsOk Try.prog E (CxE.no) fxC_t (fun _ => none) := ⟨(nd0_ok (nd0_ok (lf0_ok (.inl (fdec_sp h))) (nd0_ok (lf0_ok (.inl (fadd_sp h))) (lf0_ok (.inl (fsub_sp h))))) (nd0_ok (nd0_ok (lf0_ok (.inl (fmul_sp h))) (lf0_ok (.inl (fsma_sp h)))) (nd0_ok (lf0_ok (.inl (fred_sp h))) (lf0_ok (.inl (finv_sp h)))))), noI_ok _ _ _⟩
theorem fxC_x {E : Env} (h : E.ok) : CxEOk Try.prog E (CxE.no) := CxE.no_ok _ _
theorem fxC_cx (E : Env) (h : E.ok) (h1 : E.lo = 0) (h2 : E.hi = 1000000000000000) : Cx.ok fxC Try.prog E := ⟨tt_ok, qt_ok, bt_ok, fxC_si h, h, h1, h2, mixed_ok, fxC_x h⟩
theorem fxC_from (lo hi : Nat) (E : Env) (h : E.ok) (h1 : E.lo = lo) (h2 : E.hi = hi) : Cx.ok (Cx.from fxC lo hi) Try.prog E := ⟨tt_ok, qt_ok, bt_ok, fxC_si h, h, h1, h2, mixed_ok, fxC_x h⟩
abbrev rmulSp : Spec := fnSpec [.sl .byte, .sl .byte] [.sl .byte, .int .i64] [5] (fun _ => True) fun (x : Shp.Ds [.sl .byte, .sl .byte]) (y : Shp.Ds [.sl .byte, .int .i64]) => (y.1, y.2.1) = mulF x.1 x.2.1
theorem rmul_fn : hasFn Try.prog 11 := ⟨_, Try.func11, by rfl, by rfl⟩
theorem LimF.eta {m : Int} {a : FT} (h : LimF m a) : LimF m (a.1, a.2.1, a.2.2.1, a.2.2.2.1, a.2.2.2.2.1, a.2.2.2.2.2.1, a.2.2.2.2.2.2.1, a.2.2.2.2.2.2.2.1, a.2.2.2.2.2.2.2.2.1, a.2.2.2.2.2.2.2.2.2.1, a.2.2.2.2.2.2.2.2.2.2.1, a.2.2.2.2.2.2.2.2.2.2.2.1, a.2.2.2.2.2.2.2.2.2.2.2.2.1, a.2.2.2.2.2.2.2.2.2.2.2.2.2.1, a.2.2.2.2.2.2.2.2.2.2.2.2.2.2.1, a.2.2.2.2.2.2.2.2.2.2.2.2.2.2.2.1, ()) := h
theorem LimF.of3 {m : Int} {a : FT} {p q : Prop} (h : (LimF m a ∧ p) ∧ q) : LimF m a := h.1.1
abbrev rkC (sc : List UInt8) : List UInt8 := setAt (setAt ([] ++ sc) 0 0 fun _ => toB (bits BinOp.and .u8 (↑(([] ++ sc).getD (Int.toNat 0) 0).toNat) 248)) 31 0 fun _ => toB (bits BinOp.or .u8 (bits BinOp.and .u8 (↑((setAt ([] ++ sc) 0 0 fun _ => toB (bits BinOp.and .u8 (↑(([] ++ sc).getD (Int.toNat 0) 0).toNat) 248)).getD (Int.toNat 31) 0).toNat) 127) 64)
theorem rkC_eq {sc : List UInt8} (h : sc.length = 32) : rkC sc = clampL sc := by
 unfold rkC
 simp only [List.nil_append, setAt, and248, or64, toB_byte]
 match sc, h with
 | [s0, s1, s2, s3, s4, s5, s6, s7, s8, s9, s10, s11, s12, s13, s14, s15, s16, s17, s18, s19, s20, s21, s22, s23, s24, s25, s26, s27, s28, s29, s30, s31], _ => rfl
theorem r_bit (sc : List UInt8) (h : sc.length = 32) {z : Int} (h0 : 0 ≤ z) (h1 : z ≤ 254) : bits .and .u8 (((((rkC sc).getD ((z.tdiv 8 + 9223372036854775808) % 18446744073709551616 - 9223372036854775808).toNat 0).toNat : Nat) : Int).fdiv (2 ^ min (IntKind.u64.wrap (z.tmod 8)).toNat IntKind.u8.bits)) 1 = kbit (clampL sc) z.toNat := by
 have e1 : (z.tdiv 8 + 9223372036854775808) % 18446744073709551616 - 9223372036854775808 = z / 8 := by
  rw [Int.tdiv_eq_ediv_of_nonneg h0]; omega
 have e2 : (IntKind.u64.wrap (z.tmod 8)).toNat = z.toNat % 8 := by
  rw [Int.tmod_eq_emod_of_nonneg h0, wru (by omega)]; omega
 rw [e1, e2, rkC_eq h, show (z / 8).toNat = z.toNat / 8 by omega]
 exact bit_at _ ⟨z.toNat % 8, by omega⟩
theorem leB_two {a v : Int} (h : 0 ≤ a ∧ a < 65536) (n : Nat) : leB (n + 2) (a + 65536 * v) = toB (IntKind.u8.wrap a) :: toB (IntKind.u8.wrap (a.fdiv (2 ^ min (Int.toNat 8) IntKind.u64.bits))) :: leB n v := by
 rw [leB, leB, show a.fdiv (2 ^ min (Int.toNat 8) IntKind.u64.bits) = a / 256 from Int.fdiv_eq_ediv_of_nonneg a (by decide), IntKind.wrap_u8, IntKind.wrap_u8]
 rw [show (a + 65536 * v) % 256 = a % 256 by omega, show (a + 65536 * v) / 256 % 256 = a / 256 % 256 by omega, show (a + 65536 * v) / 256 / 256 = v by omega]
theorem leB_list {l : List Int} (h : LimL 65536 l) (i : Nat) (hi : i < l.length) : (leB (2 * l.length) (v16 l)).take (2 * (i + 1)) = (leB (2 * l.length) (v16 l)).take (2 * i) ++ [toB (IntKind.u8.wrap (l.getD i 0)), toB (IntKind.u8.wrap ((l.getD i 0).fdiv (2 ^ min (Int.toNat 8) IntKind.u64.bits)))] := by
 induction l generalizing i with
 | nil => cases hi
 | cons a l ih =>
   rw [show 2 * (a :: l).length = 2 * l.length + 2 from rfl, v16, leB_two h.hd]
   cases i with
   | zero => rfl
   | succ i =>
     have := ih h.tl i (by simpa using hi)
     rw [show 2 * (i + 1 + 1) = 2 * (i + 1) + 1 + 1 by omega, show 2 * (i + 1) = 2 * i + 1 + 1 by omega]
     simp only [List.take_succ_cons, List.getD_cons_succ, List.cons_append]
     rw [show 2 * i + 1 + 1 = 2 * (i + 1) by omega, this]
theorem out_go {r : FT} (h : LimF 65536 r) {z : Int} (h0 : 0 ≤ z) (h1 : z < 16) {l l' : List UInt8} (hl : l = (leB 32 (valF r)).take (2 * z.toNat)) {z' : Int} (hz : z' = z + 1) (e : l ++ [toB (IntKind.u8.wrap ((ls16 r).getD z.toNat 0)), toB (IntKind.u8.wrap (((ls16 r).getD z.toNat 0).fdiv (2 ^ min (Int.toNat 8) IntKind.u64.bits)))] = l') : l' = (leB 32 (valF r)).take (2 * z'.toNat) := by
 have k := leB_list h z.toNat (by rw [show (ls16 r).length = 16 from rfl]; omega)
 rw [show (ls16 r).length = 16 from rfl] at k
 rw [← e, hl, hz, show (z + 1).toNat = z.toNat + 1 by omega]
 exact k.symm
theorem leB_len (n : Nat) (v : Int) : (leB n v).length = n := by
 induction n generalizing v with
 | zero => rfl
 | succ n ih => rw [leB, List.length_cons, ih]
theorem zero_lim : LimF 65536 (0, 0, 0, 0, 0, 0, 0, 0, 0, 0, 0, 0, 0, 0, 0, 0, ()) := limF_iff.2 (by decide)
theorem zero_val : valF (0, 0, 0, 0, 0, 0, 0, 0, 0, 0, 0, 0, 0, 0, 0, 0, ()) = 0 := by rw [valF_eq]; rfl
structure HalfP (S : Prop) where
 G : Prop
 go : G → S
structure HideP (p : Prop) : Prop where
 out : p
def rmul_h : HalfP (∀ {E : Env}, E.ok → SpecOk Try.prog E 11 rmulSp) := by
 apply HalfP.mk
 focus
  intro hG0
  have hG := HideP.mk hG0
  clear hG0
  intro E hE
  refine spec_of_vc (C := fxC) rmul_fn Try.func11 (by kernel_rfl) fxC_cx (fun x hl hx => ?_) hE
  obtain ⟨sc, pt, ⟨⟩⟩ := x
  cbv
  (repeat' (first | ((with_reducible apply And.intro <;> intro h) <;> (first | with_reducible exact (tf h (by assumption)).elim | with_reducible exact (tf (by assumption) h).elim | cbv)) | ((with_reducible show JoinT (fun s K => vc _ (Code.region _ _ true) s K) _ _ _ _ _ _); (with_reducible refine JoinT.dp ?_); cbv) | (with_reducible apply SetsK.at) | (with_reducible apply Closed.nil) | (with_reducible apply Closed.cons) | ((with_reducible first | refine AllP.k0 ?_ | (apply AllP.k1; intro x hx) | (apply AllP.k2; intro x hx x hx) | (apply AllP.k3; intro x hx x hx x hx) | (apply AllP.k4; intro x hx x hx x hx x hx)); cbv) | (with_reducible apply SetIn.at) | ((fail_if_success (with_reducible show SetIn _ _ _ [])); (with_reducible apply SetIn.tl)) | (with_reducible apply SetAt.i0) | (with_reducible apply SetAt.i1 x hx) | (rename_i x1 h1; with_reducible apply SetAt.i2 x1 x h1 hx) | (rename_i x1 h1 x2 h2; with_reducible apply SetAt.i3 x1 x2 x h1 h2 hx) | (rename_i x1 h1 x2 h2 x3 h3; with_reducible apply SetAt.i4 x1 x2 x3 x h1 h2 h3 hx) | ((with_reducible first | refine Cb.mk ?_ | refine Lz.mk ?_ | refine JoinT.left ?_ | (apply AllT.mk; intro x hx)); cbv) | ((with_reducible refine Ob.mk (fun _ => ?_) ?_); rotate_left 1) | (with_reducible first | refine Mg.mk (Exists.intro ?_ (And.intro ?_ ?_)) | rfl | refine Fin.mk ?_ | exact True.intro | refine And.intro ?_ ?_)))
  all_goals first | (with_reducible show (∃ _, unr _ _ _ _ _ _); skip) | (with_reducible show UnrI _ _ _ _ _; skip) | (with_reducible show Goes _ _ _ _; skip) | (with_reducible show JoinT _ _ _ _ _ _ _; skip) | (first | ((try dsimp only [Shp.D, Shp.Ds, Shp.dflt] at *); simp only [vem, veq, ne_eq, cmpI, arI, dvI, shI, SV.den, obLt, elemAt, obApp, partL, obPart, lowD, highD, mxOk, convL_self, zerosB, List.length_replicate, vln] at *; (try dsimp only [Shp.D, Shp.Ds, Shp.dflt, Shp.dflts] at *); done) | ((try dsimp only [Shp.D, Shp.Ds, Shp.dflt] at *); simp only [vem, veq, ne_eq, cmpI, arI, dvI, shI, SV.den, obLt, elemAt, obApp, partL, obPart, lowD, highD, mxOk, convL_self, zerosB, List.length_replicate, vln] at *; (try dsimp only [Shp.D, Shp.Ds, Shp.dflt, Shp.dflts] at *); omega) | (((try dsimp only [Shp.D, Shp.Ds, Shp.dflt] at *); simp only [vem, veq, ne_eq, cmpI, arI, dvI, shI, SV.den, obLt, elemAt, obApp, partL, obPart, lowD, highD, mxOk, convL_self, zerosB, List.length_replicate, vln] at *; (try dsimp only [Shp.D, Shp.Ds, Shp.dflt, Shp.dflts] at *)); with_reducible exact (byte_rng _).2) | (((try dsimp only [Shp.D, Shp.Ds, Shp.dflt] at *); simp only [vem, veq, ne_eq, cmpI, arI, dvI, shI, SV.den, obLt, elemAt, obApp, partL, obPart, lowD, highD, mxOk, convL_self, zerosB, List.length_replicate, vln] at *; (try dsimp only [Shp.D, Shp.Ds, Shp.dflt, Shp.dflts] at *)); with_reducible exact (bits_rng8 _ _ _).1) | (((try dsimp only [Shp.D, Shp.Ds, Shp.dflt] at *); simp only [vem, veq, ne_eq, cmpI, arI, dvI, shI, SV.den, obLt, elemAt, obApp, partL, obPart, lowD, highD, mxOk, convL_self, zerosB, List.length_replicate, vln] at *; (try dsimp only [Shp.D, Shp.Ds, Shp.dflt, Shp.dflts] at *)); with_reducible exact (bits_rng8 _ _ _).2) | (((try dsimp only [Shp.D, Shp.Ds, Shp.dflt] at *); simp only [vem, veq, ne_eq, cmpI, arI, dvI, shI, SV.den, obLt, elemAt, obApp, partL, obPart, lowD, highD, mxOk, convL_self, zerosB, List.length_replicate, vln] at *; (try dsimp only [Shp.D, Shp.Ds, Shp.dflt, Shp.dflts] at *)); unfold mulF; rw [if_neg (by omega)]) | (((try dsimp only [Shp.D, Shp.Ds, Shp.dflt] at *); simp only [vem, veq, ne_eq, cmpI, arI, dvI, shI, SV.den, obLt, elemAt, obApp, partL, obPart, lowD, highD, mxOk, convL_self, zerosB, List.length_replicate, vln] at *; (try dsimp only [Shp.D, Shp.Ds, Shp.dflt, Shp.dflts] at *)); simp only [setAt, List.length_set, List.length_append, List.length_nil]; omega))
  obtain ⟨e1, he1⟩ : ∃ e, e = x := ⟨x, rfl⟩
  subst he1
  have hE1 := hx
  with_reducible refine loop_hv [] (rangeN 13 140) [3240, 3304, 3368, 3432] [] (fun z b t y => -1 ≤ z 12 ∧ z 12 ≤ 254 ∧ LimF 65536 (z 211456, z 211457, z 211458, z 211459, z 211460, z 211461, z 211462, z 211463, z 211464, z 211465, z 211466, z 211467, z 211468, z 211469, z 211470, z 211471, ()) ∧ LimF 65536 (z 215552, z 215553, z 215554, z 215555, z 215556, z 215557, z 215558, z 215559, z 215560, z 215561, z 215562, z 215563, z 215564, z 215565, z 215566, z 215567, ()) ∧ LimF 65536 (z 219648, z 219649, z 219650, z 219651, z 219652, z 219653, z 219654, z 219655, z 219656, z 219657, z 219658, z 219659, z 219660, z 219661, z 219662, z 219663, ()) ∧ LimF 65536 (z 223744, z 223745, z 223746, z 223747, z 223748, z 223749, z 223750, z 223751, z 223752, z 223753, z 223754, z 223755, z 223756, z 223757, z 223758, z 223759, ()) ∧ ladR (kbit (clampL sc)) (valF e1.1) (z 12 + 1).toNat (valF (z 211456, z 211457, z 211458, z 211459, z 211460, z 211461, z 211462, z 211463, z 211464, z 211465, z 211466, z 211467, z 211468, z 211469, z 211470, z 211471, ()) % 57896044618658097711785492504343953926634992332820282019728792003956564819949, valF (z 215552, z 215553, z 215554, z 215555, z 215556, z 215557, z 215558, z 215559, z 215560, z 215561, z 215562, z 215563, z 215564, z 215565, z 215566, z 215567, ()) % 57896044618658097711785492504343953926634992332820282019728792003956564819949, valF (z 219648, z 219649, z 219650, z 219651, z 219652, z 219653, z 219654, z 219655, z 219656, z 219657, z 219658, z 219659, z 219660, z 219661, z 219662, z 219663, ()) % 57896044618658097711785492504343953926634992332820282019728792003956564819949, valF (z 223744, z 223745, z 223746, z 223747, z 223748, z 223749, z 223750, z 223751, z 223752, z 223753, z 223754, z 223755, z 223756, z 223757, z 223758, z 223759, ()) % 57896044618658097711785492504343953926634992332820282019728792003956564819949) = ladR (kbit (clampL sc)) (valF e1.1) 255 (1, 0, valF e1.1 % 57896044618658097711785492504343953926634992332820282019728792003956564819949, 1)) (fun z b t y => (z 12 + 1).toNat) (by cbv) (by cbv) ?_ ?_ (fun z1 b1 t1 u1 y1 R1 hP1 hR1 => ?_)
  ·refine EndOk.mk (by cbv) (by cbv) (by cbv; repeat' (first | exact True.intro | exact rfl | with_reducible refine And.intro ?_ ?_)) (by cbv; repeat' (first | exact True.intro | exact rfl | with_reducible refine And.intro ?_ ?_)) (by cbv; repeat' (first | exact True.intro | exact rfl | with_reducible refine And.intro ?_ ?_))
  ·intro zq bq tq yq hUq
   have q12 := hUq.z 12
   cbv at q12
   replace q12 := q12.eq
   simp only [atI, vem, veq, ne_eq, cmpI, arI, dvI, shI, SV.den] at q12
   have q211456 := hUq.z 211456
   cbv at q211456
   replace q211456 := q211456.eq
   simp only [atI, vem, veq, ne_eq, cmpI, arI, dvI, shI, SV.den] at q211456
   have q211457 := hUq.z 211457
   cbv at q211457
   replace q211457 := q211457.eq
   simp only [atI, vem, veq, ne_eq, cmpI, arI, dvI, shI, SV.den] at q211457
   have q211458 := hUq.z 211458
   cbv at q211458
   replace q211458 := q211458.eq
   simp only [atI, vem, veq, ne_eq, cmpI, arI, dvI, shI, SV.den] at q211458
   have q211459 := hUq.z 211459
   cbv at q211459
   replace q211459 := q211459.eq
   simp only [atI, vem, veq, ne_eq, cmpI, arI, dvI, shI, SV.den] at q211459
   have q211460 := hUq.z 211460
   cbv at q211460
   replace q211460 := q211460.eq
   simp only [atI, vem, veq, ne_eq, cmpI, arI, dvI, shI, SV.den] at q211460
   have q211461 := hUq.z 211461
   cbv at q211461
   replace q211461 := q211461.eq
   simp only [atI, vem, veq, ne_eq, cmpI, arI, dvI, shI, SV.den] at q211461
   have q211462 := hUq.z 211462
   cbv at q211462
   replace q211462 := q211462.eq
   simp only [atI, vem, veq, ne_eq, cmpI, arI, dvI, shI, SV.den] at q211462
   have q211463 := hUq.z 211463
   cbv at q211463
   replace q211463 := q211463.eq
   simp only [atI, vem, veq, ne_eq, cmpI, arI, dvI, shI, SV.den] at q211463
   have q211464 := hUq.z 211464
   cbv at q211464
   replace q211464 := q211464.eq
   simp only [atI, vem, veq, ne_eq, cmpI, arI, dvI, shI, SV.den] at q211464
   have q211465 := hUq.z 211465
   cbv at q211465
   replace q211465 := q211465.eq
   simp only [atI, vem, veq, ne_eq, cmpI, arI, dvI, shI, SV.den] at q211465
   have q211466 := hUq.z 211466
   cbv at q211466
   replace q211466 := q211466.eq
   simp only [atI, vem, veq, ne_eq, cmpI, arI, dvI, shI, SV.den] at q211466
   have q211467 := hUq.z 211467
   cbv at q211467
   replace q211467 := q211467.eq
   simp only [atI, vem, veq, ne_eq, cmpI, arI, dvI, shI, SV.den] at q211467
   have q211468 := hUq.z 211468
   cbv at q211468
   replace q211468 := q211468.eq
   simp only [atI, vem, veq, ne_eq, cmpI, arI, dvI, shI, SV.den] at q211468
   have q211469 := hUq.z 211469
   cbv at q211469
   replace q211469 := q211469.eq
   simp only [atI, vem, veq, ne_eq, cmpI, arI, dvI, shI, SV.den] at q211469
   have q211470 := hUq.z 211470
   cbv at q211470
   replace q211470 := q211470.eq
   simp only [atI, vem, veq, ne_eq, cmpI, arI, dvI, shI, SV.den] at q211470
   have q211471 := hUq.z 211471
   cbv at q211471
   replace q211471 := q211471.eq
   simp only [atI, vem, veq, ne_eq, cmpI, arI, dvI, shI, SV.den] at q211471
   have q215552 := hUq.z 215552
   cbv at q215552
   replace q215552 := q215552.eq
   simp only [atI, vem, veq, ne_eq, cmpI, arI, dvI, shI, SV.den] at q215552
   have q215553 := hUq.z 215553
   cbv at q215553
   replace q215553 := q215553.eq
   simp only [atI, vem, veq, ne_eq, cmpI, arI, dvI, shI, SV.den] at q215553
   have q215554 := hUq.z 215554
   cbv at q215554
   replace q215554 := q215554.eq
   simp only [atI, vem, veq, ne_eq, cmpI, arI, dvI, shI, SV.den] at q215554
   have q215555 := hUq.z 215555
   cbv at q215555
   replace q215555 := q215555.eq
   simp only [atI, vem, veq, ne_eq, cmpI, arI, dvI, shI, SV.den] at q215555
   have q215556 := hUq.z 215556
   cbv at q215556
   replace q215556 := q215556.eq
   simp only [atI, vem, veq, ne_eq, cmpI, arI, dvI, shI, SV.den] at q215556
   have q215557 := hUq.z 215557
   cbv at q215557
   replace q215557 := q215557.eq
   simp only [atI, vem, veq, ne_eq, cmpI, arI, dvI, shI, SV.den] at q215557
   have q215558 := hUq.z 215558
   cbv at q215558
   replace q215558 := q215558.eq
   simp only [atI, vem, veq, ne_eq, cmpI, arI, dvI, shI, SV.den] at q215558
   have q215559 := hUq.z 215559
   cbv at q215559
   replace q215559 := q215559.eq
   simp only [atI, vem, veq, ne_eq, cmpI, arI, dvI, shI, SV.den] at q215559
   have q215560 := hUq.z 215560
   cbv at q215560
   replace q215560 := q215560.eq
   simp only [atI, vem, veq, ne_eq, cmpI, arI, dvI, shI, SV.den] at q215560
   have q215561 := hUq.z 215561
   cbv at q215561
   replace q215561 := q215561.eq
   simp only [atI, vem, veq, ne_eq, cmpI, arI, dvI, shI, SV.den] at q215561
   have q215562 := hUq.z 215562
   cbv at q215562
   replace q215562 := q215562.eq
   simp only [atI, vem, veq, ne_eq, cmpI, arI, dvI, shI, SV.den] at q215562
   have q215563 := hUq.z 215563
   cbv at q215563
   replace q215563 := q215563.eq
   simp only [atI, vem, veq, ne_eq, cmpI, arI, dvI, shI, SV.den] at q215563
   have q215564 := hUq.z 215564
   cbv at q215564
   replace q215564 := q215564.eq
   simp only [atI, vem, veq, ne_eq, cmpI, arI, dvI, shI, SV.den] at q215564
   have q215565 := hUq.z 215565
   cbv at q215565
   replace q215565 := q215565.eq
   simp only [atI, vem, veq, ne_eq, cmpI, arI, dvI, shI, SV.den] at q215565
   have q215566 := hUq.z 215566
   cbv at q215566
   replace q215566 := q215566.eq
   simp only [atI, vem, veq, ne_eq, cmpI, arI, dvI, shI, SV.den] at q215566
   have q215567 := hUq.z 215567
   cbv at q215567
   replace q215567 := q215567.eq
   simp only [atI, vem, veq, ne_eq, cmpI, arI, dvI, shI, SV.den] at q215567
   have q219648 := hUq.z 219648
   cbv at q219648
   replace q219648 := q219648.eq
   simp only [atI, vem, veq, ne_eq, cmpI, arI, dvI, shI, SV.den] at q219648
   have q219649 := hUq.z 219649
   cbv at q219649
   replace q219649 := q219649.eq
   simp only [atI, vem, veq, ne_eq, cmpI, arI, dvI, shI, SV.den] at q219649
   have q219650 := hUq.z 219650
   cbv at q219650
   replace q219650 := q219650.eq
   simp only [atI, vem, veq, ne_eq, cmpI, arI, dvI, shI, SV.den] at q219650
   have q219651 := hUq.z 219651
   cbv at q219651
   replace q219651 := q219651.eq
   simp only [atI, vem, veq, ne_eq, cmpI, arI, dvI, shI, SV.den] at q219651
   have q219652 := hUq.z 219652
   cbv at q219652
   replace q219652 := q219652.eq
   simp only [atI, vem, veq, ne_eq, cmpI, arI, dvI, shI, SV.den] at q219652
   have q219653 := hUq.z 219653
   cbv at q219653
   replace q219653 := q219653.eq
   simp only [atI, vem, veq, ne_eq, cmpI, arI, dvI, shI, SV.den] at q219653
   have q219654 := hUq.z 219654
   cbv at q219654
   replace q219654 := q219654.eq
   simp only [atI, vem, veq, ne_eq, cmpI, arI, dvI, shI, SV.den] at q219654
   have q219655 := hUq.z 219655
   cbv at q219655
   replace q219655 := q219655.eq
   simp only [atI, vem, veq, ne_eq, cmpI, arI, dvI, shI, SV.den] at q219655
   have q219656 := hUq.z 219656
   cbv at q219656
   replace q219656 := q219656.eq
   simp only [atI, vem, veq, ne_eq, cmpI, arI, dvI, shI, SV.den] at q219656
   have q219657 := hUq.z 219657
   cbv at q219657
   replace q219657 := q219657.eq
   simp only [atI, vem, veq, ne_eq, cmpI, arI, dvI, shI, SV.den] at q219657
   have q219658 := hUq.z 219658
   cbv at q219658
   replace q219658 := q219658.eq
   simp only [atI, vem, veq, ne_eq, cmpI, arI, dvI, shI, SV.den] at q219658
   have q219659 := hUq.z 219659
   cbv at q219659
   replace q219659 := q219659.eq
   simp only [atI, vem, veq, ne_eq, cmpI, arI, dvI, shI, SV.den] at q219659
   have q219660 := hUq.z 219660
   cbv at q219660
   replace q219660 := q219660.eq
   simp only [atI, vem, veq, ne_eq, cmpI, arI, dvI, shI, SV.den] at q219660
   have q219661 := hUq.z 219661
   cbv at q219661
   replace q219661 := q219661.eq
   simp only [atI, vem, veq, ne_eq, cmpI, arI, dvI, shI, SV.den] at q219661
   have q219662 := hUq.z 219662
   cbv at q219662
   replace q219662 := q219662.eq
   simp only [atI, vem, veq, ne_eq, cmpI, arI, dvI, shI, SV.den] at q219662
   have q219663 := hUq.z 219663
   cbv at q219663
   replace q219663 := q219663.eq
   simp only [atI, vem, veq, ne_eq, cmpI, arI, dvI, shI, SV.den] at q219663
   have q223744 := hUq.z 223744
   cbv at q223744
   replace q223744 := q223744.eq
   simp only [atI, vem, veq, ne_eq, cmpI, arI, dvI, shI, SV.den] at q223744
   have q223745 := hUq.z 223745
   cbv at q223745
   replace q223745 := q223745.eq
   simp only [atI, vem, veq, ne_eq, cmpI, arI, dvI, shI, SV.den] at q223745
   have q223746 := hUq.z 223746
   cbv at q223746
   replace q223746 := q223746.eq
   simp only [atI, vem, veq, ne_eq, cmpI, arI, dvI, shI, SV.den] at q223746
   have q223747 := hUq.z 223747
   cbv at q223747
   replace q223747 := q223747.eq
   simp only [atI, vem, veq, ne_eq, cmpI, arI, dvI, shI, SV.den] at q223747
   have q223748 := hUq.z 223748
   cbv at q223748
   replace q223748 := q223748.eq
   simp only [atI, vem, veq, ne_eq, cmpI, arI, dvI, shI, SV.den] at q223748
   have q223749 := hUq.z 223749
   cbv at q223749
   replace q223749 := q223749.eq
   simp only [atI, vem, veq, ne_eq, cmpI, arI, dvI, shI, SV.den] at q223749
   have q223750 := hUq.z 223750
   cbv at q223750
   replace q223750 := q223750.eq
   simp only [atI, vem, veq, ne_eq, cmpI, arI, dvI, shI, SV.den] at q223750
   have q223751 := hUq.z 223751
   cbv at q223751
   replace q223751 := q223751.eq
   simp only [atI, vem, veq, ne_eq, cmpI, arI, dvI, shI, SV.den] at q223751
   have q223752 := hUq.z 223752
   cbv at q223752
   replace q223752 := q223752.eq
   simp only [atI, vem, veq, ne_eq, cmpI, arI, dvI, shI, SV.den] at q223752
   have q223753 := hUq.z 223753
   cbv at q223753
   replace q223753 := q223753.eq
   simp only [atI, vem, veq, ne_eq, cmpI, arI, dvI, shI, SV.den] at q223753
   have q223754 := hUq.z 223754
   cbv at q223754
   replace q223754 := q223754.eq
   simp only [atI, vem, veq, ne_eq, cmpI, arI, dvI, shI, SV.den] at q223754
   have q223755 := hUq.z 223755
   cbv at q223755
   replace q223755 := q223755.eq
   simp only [atI, vem, veq, ne_eq, cmpI, arI, dvI, shI, SV.den] at q223755
   have q223756 := hUq.z 223756
   cbv at q223756
   replace q223756 := q223756.eq
   simp only [atI, vem, veq, ne_eq, cmpI, arI, dvI, shI, SV.den] at q223756
   have q223757 := hUq.z 223757
   cbv at q223757
   replace q223757 := q223757.eq
   simp only [atI, vem, veq, ne_eq, cmpI, arI, dvI, shI, SV.den] at q223757
   have q223758 := hUq.z 223758
   cbv at q223758
   replace q223758 := q223758.eq
   simp only [atI, vem, veq, ne_eq, cmpI, arI, dvI, shI, SV.den] at q223758
   have q223759 := hUq.z 223759
   cbv at q223759
   replace q223759 := q223759.eq
   simp only [atI, vem, veq, ne_eq, cmpI, arI, dvI, shI, SV.den] at q223759
   clear hUq
   try dsimp only [Shp.D, Shp.Ds, Shp.dflt] at *
   try simp only [vem, veq, ne_eq, cmpI, arI, dvI, shI, SV.den, convL_self] at *
   rw [← q12, ← q211456, ← q211457, ← q211458, ← q211459, ← q211460, ← q211461, ← q211462, ← q211463, ← q211464, ← q211465, ← q211466, ← q211467, ← q211468, ← q211469, ← q211470, ← q211471, ← q215552, ← q215553, ← q215554, ← q215555, ← q215556, ← q215557, ← q215558, ← q215559, ← q215560, ← q215561, ← q215562, ← q215563, ← q215564, ← q215565, ← q215566, ← q215567, ← q219648, ← q219649, ← q219650, ← q219651, ← q219652, ← q219653, ← q219654, ← q219655, ← q219656, ← q219657, ← q219658, ← q219659, ← q219660, ← q219661, ← q219662, ← q219663, ← q223744, ← q223745, ← q223746, ← q223747, ← q223748, ← q223749, ← q223750, ← q223751, ← q223752, ← q223753, ← q223754, ← q223755, ← q223756, ← q223757, ← q223758, ← q223759]
   exact ⟨by omega, by omega, one_lim, zero_lim, hx.1.1, one_lim, by rw [one_val, zero_val]; rfl⟩
  obtain ⟨p1, p2, p3, p4, p5, p6, p7⟩ := hP1
  cbv
  (repeat' (first | ((with_reducible apply And.intro <;> intro h) <;> (first | with_reducible exact (tf h (by assumption)).elim | with_reducible exact (tf (by assumption) h).elim | cbv)) | ((with_reducible first | refine Cb.mk ?_ | refine Lz.mk ?_ | (apply AllT.mk; intro x hx)); cbv) | ((with_reducible refine Ob.mk (fun _ => ?_) ?_); rotate_left 1) | (with_reducible first | refine Mg.mk (Exists.intro ?_ (And.intro ?_ ?_)) | rfl | refine Fin.mk ?_ | exact True.intro | refine And.intro ?_ ?_)))
  with_reducible refine JoinT.left ?_
  cbv
  (repeat' (first | ((with_reducible apply And.intro <;> intro h) <;> (first | with_reducible exact (tf h (by assumption)).elim | with_reducible exact (tf (by assumption) h).elim | cbv)) | ((with_reducible first | refine Cb.mk ?_ | refine Lz.mk ?_ | (apply AllT.mk; intro x hx)); cbv) | ((with_reducible refine Ob.mk (fun _ => ?_) ?_); rotate_left 1) | (with_reducible first | refine Mg.mk (Exists.intro ?_ (And.intro ?_ ?_)) | rfl | refine Fin.mk ?_ | exact True.intro | refine And.intro ?_ ?_)))
  with_reducible refine JoinT.left ?_
  cbv
  (repeat' (first | ((with_reducible apply And.intro <;> intro h) <;> (first | with_reducible exact (tf h (by assumption)).elim | with_reducible exact (tf (by assumption) h).elim | cbv)) | ((with_reducible first | refine Cb.mk ?_ | refine Lz.mk ?_ | (apply AllT.mk; intro x hx)); cbv) | ((with_reducible refine Ob.mk (fun _ => ?_) ?_); rotate_left 1) | (with_reducible first | refine Mg.mk (Exists.intro ?_ (And.intro ?_ ?_)) | rfl | refine Fin.mk ?_ | exact True.intro | refine And.intro ?_ ?_)))
  all_goals first | (with_reducible show (∃ _, unr _ _ _ _ _ _); skip) | (with_reducible show UnrI _ _ _ _ _; skip) | (with_reducible show Goes _ _ _ _; skip) | (with_reducible show JoinT _ _ _ _ _ _ _; skip) | (first | ((try dsimp only [Shp.D, Shp.Ds, Shp.dflt] at *); simp only [vem, veq, ne_eq, cmpI, arI, dvI, shI, SV.den, obLt, elemAt, obApp, partL, obPart, lowD, highD, mxOk, convL_self, zerosB, List.length_replicate, vln] at *; (try dsimp only [Shp.D, Shp.Ds, Shp.dflt, Shp.dflts] at *); done) | ((try dsimp only [Shp.D, Shp.Ds, Shp.dflt] at *); simp only [vem, veq, ne_eq, cmpI, arI, dvI, shI, SV.den, obLt, elemAt, obApp, partL, obPart, lowD, highD, mxOk, convL_self, zerosB, List.length_replicate, vln] at *; (try dsimp only [Shp.D, Shp.Ds, Shp.dflt, Shp.dflts] at *); omega) | (((try dsimp only [Shp.D, Shp.Ds, Shp.dflt] at *); simp only [vem, veq, ne_eq, cmpI, arI, dvI, shI, SV.den, obLt, elemAt, obApp, partL, obPart, lowD, highD, mxOk, convL_self, zerosB, List.length_replicate, vln] at *; (try dsimp only [Shp.D, Shp.Ds, Shp.dflt, Shp.dflts] at *)); with_reducible exact (bits_rng8 _ _ _).1) | (((try dsimp only [Shp.D, Shp.Ds, Shp.dflt] at *); simp only [vem, veq, ne_eq, cmpI, arI, dvI, shI, SV.den, obLt, elemAt, obApp, partL, obPart, lowD, highD, mxOk, convL_self, zerosB, List.length_replicate, vln] at *; (try dsimp only [Shp.D, Shp.Ds, Shp.dflt, Shp.dflts] at *)); rw [IntKind.wrap_u64]; omega) | (((try dsimp only [Shp.D, Shp.Ds, Shp.dflt] at *); simp only [vem, veq, ne_eq, cmpI, arI, dvI, shI, SV.den, obLt, elemAt, obApp, partL, obPart, lowD, highD, mxOk, convL_self, zerosB, List.length_replicate, vln] at *; (try dsimp only [Shp.D, Shp.Ds, Shp.dflt, Shp.dflts] at *)); rw [Int.tdiv_eq_ediv_of_nonneg (by omega)]; simp only [setAt, List.length_set, List.length_append, List.length_nil]; omega))
  rotate_left 1
  ·clear hG
   as_aux_lemma =>
    cbv
    (repeat' (first | ((with_reducible apply And.intro <;> intro h) <;> (first | with_reducible exact (tf h (by assumption)).elim | with_reducible exact (tf (by assumption) h).elim | cbv)) | ((with_reducible show JoinT (fun s K => vc _ (Code.region _ _ true) s K) _ _ _ _ _ _); (with_reducible refine JoinT.dp ?_); cbv) | (with_reducible apply SetsK.at) | (with_reducible apply Closed.nil) | (with_reducible apply Closed.cons) | ((with_reducible first | refine AllP.k0 ?_ | (apply AllP.k1; intro x hx) | (apply AllP.k2; intro x hx x hx) | (apply AllP.k3; intro x hx x hx x hx) | (apply AllP.k4; intro x hx x hx x hx x hx)); cbv) | (with_reducible apply SetIn.at) | ((fail_if_success (with_reducible show SetIn _ _ _ [])); (with_reducible apply SetIn.tl)) | (with_reducible apply SetAt.i0) | (with_reducible apply SetAt.i1 x hx) | (rename_i x1 h1; with_reducible apply SetAt.i2 x1 x h1 hx) | (rename_i x1 h1 x2 h2; with_reducible apply SetAt.i3 x1 x2 x h1 h2 hx) | (rename_i x1 h1 x2 h2 x3 h3; with_reducible apply SetAt.i4 x1 x2 x3 x h1 h2 h3 hx) | ((with_reducible first | refine Cb.mk ?_ | refine Lz.mk ?_ | refine JoinT.left ?_ | (apply AllT.mk; intro x hx)); cbv) | ((with_reducible refine Ob.mk (fun _ => ?_) ?_); rotate_left 1) | (with_reducible first | refine Mg.mk (Exists.intro ?_ (And.intro ?_ ?_)) | rfl | refine Fin.mk ?_ | exact True.intro | refine And.intro ?_ ?_)))
    all_goals first
     | (with_reducible show (∃ _, unr _ _ _ _ _ _); skip)
     | ((try simp only [vem, veq, ne_eq, cmpI, arI, dvI, shI, SV.den]); (with_reducible first | assumption | exact LimF.of3 (by with_reducible assumption) | (refine LimF.eta ?_; first | assumption | exact LimF.of3 (by with_reducible assumption))))
     | (exfalso; ((try dsimp only [Shp.D, Shp.Ds, Shp.dflt] at *); simp only [vem, veq, ne_eq, cmpI, arI, dvI, shI, SV.den, obLt, elemAt, obApp, partL, obPart, lowD, highD, mxOk, convL_self, zerosB, List.length_replicate, vln] at *; (try dsimp only [Shp.D, Shp.Ds, Shp.dflt, Shp.dflts] at *)); omega)
    rename_i yi gi ym gm
    with_reducible refine loop_hv [(26, 900001, 5, .byte)] (rangeN 136 17) [] [900001] (fun z b t y => 0 ≤ z 27 ∧ z 27 ≤ 16 ∧ y 900001 .byte = (leB 32 (valF x.1)).take (2 * (z 27).toNat)) (fun z b t y => (16 - z 27).toNat) (by cbv) (by cbv) ?_ ?_ (fun z3 b3 t3 u3 y3 R3 hP3 hR3 => ?_)
    ·refine EndOk.mk (by cbv) (by cbv) (by cbv; repeat' (first | exact True.intro | exact rfl | with_reducible refine And.intro ?_ ?_)) (by cbv; repeat' (first | exact True.intro | exact rfl | with_reducible refine And.intro ?_ ?_)) (by cbv; repeat' (first | exact True.intro | exact rfl | with_reducible refine And.intro ?_ ?_))
    ·intro zq bq tq yq hUq
     have q27 := hUq.z 27
     cbv at q27
     replace q27 := q27.eq
     simp only [atI, vem, veq, ne_eq, cmpI, arI, dvI, shI, SV.den] at q27
     have qy900001 := hUq.y 900001 (.byte)
     cbv at qy900001
     replace qy900001 := qy900001.eq
     simp only [atY, convL_self, vem, veq, ne_eq, cmpI, arI, dvI, shI, SV.den] at qy900001
     clear hUq
     try dsimp only [Shp.D, Shp.Ds, Shp.dflt] at *
     try simp only [vem, veq, ne_eq, cmpI, arI, dvI, shI, SV.den, convL_self] at *
     rw [← q27, ← qy900001]
     exact ⟨by omega, by omega, rfl⟩
    obtain ⟨r1, r2, r3⟩ := hP3
    cbv
    (repeat' (first | ((with_reducible apply And.intro <;> intro h) <;> (first | with_reducible exact (tf h (by assumption)).elim | with_reducible exact (tf (by assumption) h).elim | cbv)) | ((with_reducible show JoinT (fun s K => vc _ (Code.region _ _ true) s K) _ _ _ _ _ _); (with_reducible apply JoinT.mg2); (focus (cbv; (repeat' (first | ((with_reducible apply And.intro <;> intro h) <;> (first | with_reducible exact (tf h (by assumption)).elim | with_reducible exact (tf (by assumption) h).elim | cbv)) | ((with_reducible first | refine Cb.mk ?_ | refine Lz.mk ?_ | refine JoinT.left ?_ | (apply AllT.mk; intro x hx)); cbv) | ((with_reducible refine Ob.mk (fun _ => ?_) ?_); rotate_left 1) | (with_reducible first | refine Mg.mk (Exists.intro ?_ (And.intro ?_ ?_)) | rfl | refine Fin.mk ?_ | exact True.intro | refine And.intro ?_ ?_))); (all_goals (try (have du : Unit := (); have dv : Unit := (); first | exact Goes.self (Ex2.mk ⟨dv, du, trivial, trivial, rfl⟩) | exact Goes.self (Ex2.mk ⟨x, du, hx, trivial, rfl⟩) | (rename_i xa hxa; exact Goes.self (Ex2.mk ⟨xa, x, hxa, hx, rfl⟩))))); (all_goals (fail_if_success (with_reducible first | show Goes _ _ _ _ | show (∃ _, unr _ _ _ _ _ _))))))) | ((with_reducible first | refine Cb.mk ?_ | refine Lz.mk ?_ | refine JoinT.left ?_ | (apply AllT.mk; intro x hx)); cbv) | ((with_reducible refine Ob.mk (fun _ => ?_) ?_); rotate_left 1) | (with_reducible first | refine Mg.mk (Exists.intro ?_ (And.intro ?_ ?_)) | rfl | refine Fin.mk ?_ | exact True.intro | refine And.intro ?_ ?_)))
    all_goals first
     | (with_reducible show Goes _ _ _ _
        (((with_reducible refine hR3 _ ?_ (fun zq bq tq yq hUq => ?_)); (focus (refine EndOk.mk (by cbv) (by cbv) (by cbv; repeat' (first | exact True.intro | exact rfl | with_reducible refine And.intro ?_ ?_)) (by cbv; repeat' (first | exact True.intro | exact rfl | with_reducible refine And.intro ?_ ?_)) (by cbv; repeat' (first | exact True.intro | exact rfl | with_reducible refine And.intro ?_ ?_)))); (have q27 := hUq.z 27); (cbv at q27); (replace q27 := q27.eq); (simp only [atI, vem, veq, ne_eq, cmpI, arI, dvI, shI, SV.den] at q27); (have qy900001 := hUq.y 900001 (.byte)); (cbv at qy900001); (replace qy900001 := qy900001.eq); (simp only [atY, convL_self, vem, veq, ne_eq, cmpI, arI, dvI, shI, SV.den] at qy900001); (clear hUq hR3); (try dsimp only [Shp.D, Shp.Ds, Shp.dflt] at *); (try simp only [vem, veq, ne_eq, cmpI, arI, dvI, shI, SV.den, elemAt, convL_self] at *); (try dsimp only [Shp.D, Shp.Ds, Shp.dflt, Shp.dflts] at *))); (try ((try dsimp only [Shp.D, Shp.Ds, Shp.dflt] at *); simp only [vem, veq, ne_eq, cmpI, arI, dvI, shI, SV.den, obLt, elemAt, obApp, partL, obPart, lowD, highD, mxOk, convL_self, zerosB, List.length_replicate, vln] at *; (try dsimp only [Shp.D, Shp.Ds, Shp.dflt, Shp.dflts] at *)))
        simp only [selI, denL, den_t] at qy900001
        exact ⟨⟨by omega, by omega, out_go hx.1.1 r1 (by omega) r3 (by omega) qy900001⟩, by omega⟩)
     | ((try dsimp only [Shp.D, Shp.Ds, Shp.dflt] at *); simp only [vem, veq, ne_eq, cmpI, arI, dvI, shI, SV.den, obLt, elemAt, obApp, partL, obPart, lowD, highD, mxOk, convL_self, zerosB, List.length_replicate, vln] at *; (try dsimp only [Shp.D, Shp.Ds, Shp.dflt, Shp.dflts] at *); done)
     | ((try dsimp only [Shp.D, Shp.Ds, Shp.dflt] at *); simp only [vem, veq, ne_eq, cmpI, arI, dvI, shI, SV.den, obLt, elemAt, obApp, partL, obPart, lowD, highD, mxOk, convL_self, zerosB, List.length_replicate, vln] at *; (try dsimp only [Shp.D, Shp.Ds, Shp.dflt, Shp.dflts] at *); omega)
     | (((try dsimp only [Shp.D, Shp.Ds, Shp.dflt] at *); simp only [vem, veq, ne_eq, cmpI, arI, dvI, shI, SV.den, obLt, elemAt, obApp, partL, obPart, lowD, highD, mxOk, convL_self, zerosB, List.length_replicate, vln] at *; (try dsimp only [Shp.D, Shp.Ds, Shp.dflt, Shp.dflts] at *)); have hl := congrArg List.length r3; rw [List.length_take, leB_len] at hl; omega)
     | (((try dsimp only [Shp.D, Shp.Ds, Shp.dflt] at *); simp only [vem, veq, ne_eq, cmpI, arI, dvI, shI, SV.den, obLt, elemAt, obApp, partL, obPart, lowD, highD, mxOk, convL_self, zerosB, List.length_replicate, vln] at *; (try dsimp only [Shp.D, Shp.Ds, Shp.dflt, Shp.dflts] at *)); rw [r3, show (z3 27).toNat = 16 by omega, List.take_of_length_le (by rw [leB_len]; decide), hx.1.2]; exact mul_ok (by omega) (by omega) hE1.1.2 (by rw [show (z1 12 + 1).toNat = 0 by omega] at p7; exact p7) gi.1.2 gm.1.2)
  with_reducible refine join_hv (rangeN 14 139) [] [3240, 3304, 3368, 3432] [] (fun z b t y => (b 13 = true ↔ kbit (clampL sc) (z1 12).toNat = 1) ∧ LimF 65536 (z 211456, z 211457, z 211458, z 211459, z 211460, z 211461, z 211462, z 211463, z 211464, z 211465, z 211466, z 211467, z 211468, z 211469, z 211470, z 211471, ()) ∧ LimF 65536 (z 215552, z 215553, z 215554, z 215555, z 215556, z 215557, z 215558, z 215559, z 215560, z 215561, z 215562, z 215563, z 215564, z 215565, z 215566, z 215567, ()) ∧ LimF 65536 (z 219648, z 219649, z 219650, z 219651, z 219652, z 219653, z 219654, z 219655, z 219656, z 219657, z 219658, z 219659, z 219660, z 219661, z 219662, z 219663, ()) ∧ LimF 65536 (z 223744, z 223745, z 223746, z 223747, z 223748, z 223749, z 223750, z 223751, z 223752, z 223753, z 223754, z 223755, z 223756, z 223757, z 223758, z 223759, ()) ∧ valF (z 211456, z 211457, z 211458, z 211459, z 211460, z 211461, z 211462, z 211463, z 211464, z 211465, z 211466, z 211467, z 211468, z 211469, z 211470, z 211471, ()) = (if kbit (clampL sc) (z1 12).toNat = 1 then valF (z1 219648, z1 219649, z1 219650, z1 219651, z1 219652, z1 219653, z1 219654, z1 219655, z1 219656, z1 219657, z1 219658, z1 219659, z1 219660, z1 219661, z1 219662, z1 219663, ()) else valF (z1 211456, z1 211457, z1 211458, z1 211459, z1 211460, z1 211461, z1 211462, z1 211463, z1 211464, z1 211465, z1 211466, z1 211467, z1 211468, z1 211469, z1 211470, z1 211471, ())) ∧ valF (z 215552, z 215553, z 215554, z 215555, z 215556, z 215557, z 215558, z 215559, z 215560, z 215561, z 215562, z 215563, z 215564, z 215565, z 215566, z 215567, ()) = (if kbit (clampL sc) (z1 12).toNat = 1 then valF (z1 223744, z1 223745, z1 223746, z1 223747, z1 223748, z1 223749, z1 223750, z1 223751, z1 223752, z1 223753, z1 223754, z1 223755, z1 223756, z1 223757, z1 223758, z1 223759, ()) else valF (z1 215552, z1 215553, z1 215554, z1 215555, z1 215556, z1 215557, z1 215558, z1 215559, z1 215560, z1 215561, z1 215562, z1 215563, z1 215564, z1 215565, z1 215566, z1 215567, ())) ∧ valF (z 219648, z 219649, z 219650, z 219651, z 219652, z 219653, z 219654, z 219655, z 219656, z 219657, z 219658, z 219659, z 219660, z 219661, z 219662, z 219663, ()) = (if kbit (clampL sc) (z1 12).toNat = 1 then valF (z1 211456, z1 211457, z1 211458, z1 211459, z1 211460, z1 211461, z1 211462, z1 211463, z1 211464, z1 211465, z1 211466, z1 211467, z1 211468, z1 211469, z1 211470, z1 211471, ()) else valF (z1 219648, z1 219649, z1 219650, z1 219651, z1 219652, z1 219653, z1 219654, z1 219655, z1 219656, z1 219657, z1 219658, z1 219659, z1 219660, z1 219661, z1 219662, z1 219663, ())) ∧ valF (z 223744, z 223745, z 223746, z 223747, z 223748, z 223749, z 223750, z 223751, z 223752, z 223753, z 223754, z 223755, z 223756, z 223757, z 223758, z 223759, ()) = (if kbit (clampL sc) (z1 12).toNat = 1 then valF (z1 215552, z1 215553, z1 215554, z1 215555, z1 215556, z1 215557, z1 215558, z1 215559, z1 215560, z1 215561, z1 215562, z1 215563, z1 215564, z1 215565, z1 215566, z1 215567, ()) else valF (z1 223744, z1 223745, z1 223746, z1 223747, z1 223748, z1 223749, z1 223750, z1 223751, z1 223752, z1 223753, z1 223754, z1 223755, z1 223756, z1 223757, z1 223758, z1 223759, ()))) (by cbv) ?_ ?_
  ·intro R2 hR2
   cbv
   (repeat' (first | ((with_reducible apply And.intro <;> intro h) <;> (first | with_reducible exact (tf h (by assumption)).elim | with_reducible exact (tf (by assumption) h).elim | cbv)) | ((with_reducible first | refine Cb.mk ?_ | refine Lz.mk ?_ | refine JoinT.left ?_ | (apply AllT.mk; intro x hx)); cbv) | ((with_reducible refine Ob.mk (fun _ => ?_) ?_); rotate_left 1) | (with_reducible first | refine Mg.mk (Exists.intro ?_ (And.intro ?_ ?_)) | rfl | refine Fin.mk ?_ | exact True.intro | refine And.intro ?_ ?_)))
   all_goals first | (with_reducible show (∃ _, unr _ _ _ _ _ _); skip) | (with_reducible show UnrI _ _ _ _ _; skip) | (with_reducible show Goes _ _ _ _; skip) | (with_reducible show JoinT _ _ _ _ _ _ _; skip) | (first | ((try dsimp only [Shp.D, Shp.Ds, Shp.dflt] at *); simp only [vem, veq, ne_eq, cmpI, arI, dvI, shI, SV.den, obLt, elemAt, obApp, partL, obPart, lowD, highD, mxOk, convL_self, zerosB, List.length_replicate, vln] at *; (try dsimp only [Shp.D, Shp.Ds, Shp.dflt, Shp.dflts] at *); done) | ((try dsimp only [Shp.D, Shp.Ds, Shp.dflt] at *); simp only [vem, veq, ne_eq, cmpI, arI, dvI, shI, SV.den, obLt, elemAt, obApp, partL, obPart, lowD, highD, mxOk, convL_self, zerosB, List.length_replicate, vln] at *; (try dsimp only [Shp.D, Shp.Ds, Shp.dflt, Shp.dflts] at *); omega))
   all_goals ((with_reducible refine hR2 _ ?_ (fun zq bq tq yq hUq => ?_)); (focus (refine EndOk.mk (by cbv) (by cbv) (by cbv; repeat' (first | exact True.intro | exact rfl | with_reducible refine And.intro ?_ ?_)) (by cbv; repeat' (first | exact True.intro | exact rfl | with_reducible refine And.intro ?_ ?_)) (by cbv; repeat' (first | exact True.intro | exact rfl | with_reducible refine And.intro ?_ ?_)))); (have qb13 := hUq.b 13); (cbv at qb13); (replace qb13 := qb13.eq); (simp only [atB, vem, veq, ne_eq, cmpI, arI, dvI, shI, SV.den] at qb13); (have q211456 := hUq.z 211456); (cbv at q211456); (replace q211456 := q211456.eq); (simp only [atI, vem, veq, ne_eq, cmpI, arI, dvI, shI, SV.den] at q211456); (have q211457 := hUq.z 211457); (cbv at q211457); (replace q211457 := q211457.eq); (simp only [atI, vem, veq, ne_eq, cmpI, arI, dvI, shI, SV.den] at q211457); (have q211458 := hUq.z 211458); (cbv at q211458); (replace q211458 := q211458.eq); (simp only [atI, vem, veq, ne_eq, cmpI, arI, dvI, shI, SV.den] at q211458); (have q211459 := hUq.z 211459); (cbv at q211459); (replace q211459 := q211459.eq); (simp only [atI, vem, veq, ne_eq, cmpI, arI, dvI, shI, SV.den] at q211459); (have q211460 := hUq.z 211460); (cbv at q211460); (replace q211460 := q211460.eq); (simp only [atI, vem, veq, ne_eq, cmpI, arI, dvI, shI, SV.den] at q211460); (have q211461 := hUq.z 211461); (cbv at q211461); (replace q211461 := q211461.eq); (simp only [atI, vem, veq, ne_eq, cmpI, arI, dvI, shI, SV.den] at q211461); (have q211462 := hUq.z 211462); (cbv at q211462); (replace q211462 := q211462.eq); (simp only [atI, vem, veq, ne_eq, cmpI, arI, dvI, shI, SV.den] at q211462); (have q211463 := hUq.z 211463); (cbv at q211463); (replace q211463 := q211463.eq); (simp only [atI, vem, veq, ne_eq, cmpI, arI, dvI, shI, SV.den] at q211463); (have q211464 := hUq.z 211464); (cbv at q211464); (replace q211464 := q211464.eq); (simp only [atI, vem, veq, ne_eq, cmpI, arI, dvI, shI, SV.den] at q211464); (have q211465 := hUq.z 211465); (cbv at q211465); (replace q211465 := q211465.eq); (simp only [atI, vem, veq, ne_eq, cmpI, arI, dvI, shI, SV.den] at q211465); (have q211466 := hUq.z 211466); (cbv at q211466); (replace q211466 := q211466.eq); (simp only [atI, vem, veq, ne_eq, cmpI, arI, dvI, shI, SV.den] at q211466); (have q211467 := hUq.z 211467); (cbv at q211467); (replace q211467 := q211467.eq); (simp only [atI, vem, veq, ne_eq, cmpI, arI, dvI, shI, SV.den] at q211467); (have q211468 := hUq.z 211468); (cbv at q211468); (replace q211468 := q211468.eq); (simp only [atI, vem, veq, ne_eq, cmpI, arI, dvI, shI, SV.den] at q211468); (have q211469 := hUq.z 211469); (cbv at q211469); (replace q211469 := q211469.eq); (simp only [atI, vem, veq, ne_eq, cmpI, arI, dvI, shI, SV.den] at q211469); (have q211470 := hUq.z 211470); (cbv at q211470); (replace q211470 := q211470.eq); (simp only [atI, vem, veq, ne_eq, cmpI, arI, dvI, shI, SV.den] at q211470); (have q211471 := hUq.z 211471); (cbv at q211471); (replace q211471 := q211471.eq); (simp only [atI, vem, veq, ne_eq, cmpI, arI, dvI, shI, SV.den] at q211471); (have q215552 := hUq.z 215552); (cbv at q215552); (replace q215552 := q215552.eq); (simp only [atI, vem, veq, ne_eq, cmpI, arI, dvI, shI, SV.den] at q215552); (have q215553 := hUq.z 215553); (cbv at q215553); (replace q215553 := q215553.eq); (simp only [atI, vem, veq, ne_eq, cmpI, arI, dvI, shI, SV.den] at q215553); (have q215554 := hUq.z 215554); (cbv at q215554); (replace q215554 := q215554.eq); (simp only [atI, vem, veq, ne_eq, cmpI, arI, dvI, shI, SV.den] at q215554); (have q215555 := hUq.z 215555); (cbv at q215555); (replace q215555 := q215555.eq); (simp only [atI, vem, veq, ne_eq, cmpI, arI, dvI, shI, SV.den] at q215555); (have q215556 := hUq.z 215556); (cbv at q215556); (replace q215556 := q215556.eq); (simp only [atI, vem, veq, ne_eq, cmpI, arI, dvI, shI, SV.den] at q215556); (have q215557 := hUq.z 215557); (cbv at q215557); (replace q215557 := q215557.eq); (simp only [atI, vem, veq, ne_eq, cmpI, arI, dvI, shI, SV.den] at q215557); (have q215558 := hUq.z 215558); (cbv at q215558); (replace q215558 := q215558.eq); (simp only [atI, vem, veq, ne_eq, cmpI, arI, dvI, shI, SV.den] at q215558); (have q215559 := hUq.z 215559); (cbv at q215559); (replace q215559 := q215559.eq); (simp only [atI, vem, veq, ne_eq, cmpI, arI, dvI, shI, SV.den] at q215559); (have q215560 := hUq.z 215560); (cbv at q215560); (replace q215560 := q215560.eq); (simp only [atI, vem, veq, ne_eq, cmpI, arI, dvI, shI, SV.den] at q215560); (have q215561 := hUq.z 215561); (cbv at q215561); (replace q215561 := q215561.eq); (simp only [atI, vem, veq, ne_eq, cmpI, arI, dvI, shI, SV.den] at q215561); (have q215562 := hUq.z 215562); (cbv at q215562); (replace q215562 := q215562.eq); (simp only [atI, vem, veq, ne_eq, cmpI, arI, dvI, shI, SV.den] at q215562); (have q215563 := hUq.z 215563); (cbv at q215563); (replace q215563 := q215563.eq); (simp only [atI, vem, veq, ne_eq, cmpI, arI, dvI, shI, SV.den] at q215563); (have q215564 := hUq.z 215564); (cbv at q215564); (replace q215564 := q215564.eq); (simp only [atI, vem, veq, ne_eq, cmpI, arI, dvI, shI, SV.den] at q215564); (have q215565 := hUq.z 215565); (cbv at q215565); (replace q215565 := q215565.eq); (simp only [atI, vem, veq, ne_eq, cmpI, arI, dvI, shI, SV.den] at q215565); (have q215566 := hUq.z 215566); (cbv at q215566); (replace q215566 := q215566.eq); (simp only [atI, vem, veq, ne_eq, cmpI, arI, dvI, shI, SV.den] at q215566); (have q215567 := hUq.z 215567); (cbv at q215567); (replace q215567 := q215567.eq); (simp only [atI, vem, veq, ne_eq, cmpI, arI, dvI, shI, SV.den] at q215567); (have q219648 := hUq.z 219648); (cbv at q219648); (replace q219648 := q219648.eq); (simp only [atI, vem, veq, ne_eq, cmpI, arI, dvI, shI, SV.den] at q219648); (have q219649 := hUq.z 219649); (cbv at q219649); (replace q219649 := q219649.eq); (simp only [atI, vem, veq, ne_eq, cmpI, arI, dvI, shI, SV.den] at q219649); (have q219650 := hUq.z 219650); (cbv at q219650); (replace q219650 := q219650.eq); (simp only [atI, vem, veq, ne_eq, cmpI, arI, dvI, shI, SV.den] at q219650); (have q219651 := hUq.z 219651); (cbv at q219651); (replace q219651 := q219651.eq); (simp only [atI, vem, veq, ne_eq, cmpI, arI, dvI, shI, SV.den] at q219651); (have q219652 := hUq.z 219652); (cbv at q219652); (replace q219652 := q219652.eq); (simp only [atI, vem, veq, ne_eq, cmpI, arI, dvI, shI, SV.den] at q219652); (have q219653 := hUq.z 219653); (cbv at q219653); (replace q219653 := q219653.eq); (simp only [atI, vem, veq, ne_eq, cmpI, arI, dvI, shI, SV.den] at q219653); (have q219654 := hUq.z 219654); (cbv at q219654); (replace q219654 := q219654.eq); (simp only [atI, vem, veq, ne_eq, cmpI, arI, dvI, shI, SV.den] at q219654); (have q219655 := hUq.z 219655); (cbv at q219655); (replace q219655 := q219655.eq); (simp only [atI, vem, veq, ne_eq, cmpI, arI, dvI, shI, SV.den] at q219655); (have q219656 := hUq.z 219656); (cbv at q219656); (replace q219656 := q219656.eq); (simp only [atI, vem, veq, ne_eq, cmpI, arI, dvI, shI, SV.den] at q219656); (have q219657 := hUq.z 219657); (cbv at q219657); (replace q219657 := q219657.eq); (simp only [atI, vem, veq, ne_eq, cmpI, arI, dvI, shI, SV.den] at q219657); (have q219658 := hUq.z 219658); (cbv at q219658); (replace q219658 := q219658.eq); (simp only [atI, vem, veq, ne_eq, cmpI, arI, dvI, shI, SV.den] at q219658); (have q219659 := hUq.z 219659); (cbv at q219659); (replace q219659 := q219659.eq); (simp only [atI, vem, veq, ne_eq, cmpI, arI, dvI, shI, SV.den] at q219659); (have q219660 := hUq.z 219660); (cbv at q219660); (replace q219660 := q219660.eq); (simp only [atI, vem, veq, ne_eq, cmpI, arI, dvI, shI, SV.den] at q219660); (have q219661 := hUq.z 219661); (cbv at q219661); (replace q219661 := q219661.eq); (simp only [atI, vem, veq, ne_eq, cmpI, arI, dvI, shI, SV.den] at q219661); (have q219662 := hUq.z 219662); (cbv at q219662); (replace q219662 := q219662.eq); (simp only [atI, vem, veq, ne_eq, cmpI, arI, dvI, shI, SV.den] at q219662); (have q219663 := hUq.z 219663); (cbv at q219663); (replace q219663 := q219663.eq); (simp only [atI, vem, veq, ne_eq, cmpI, arI, dvI, shI, SV.den] at q219663); (have q223744 := hUq.z 223744); (cbv at q223744); (replace q223744 := q223744.eq); (simp only [atI, vem, veq, ne_eq, cmpI, arI, dvI, shI, SV.den] at q223744); (have q223745 := hUq.z 223745); (cbv at q223745); (replace q223745 := q223745.eq); (simp only [atI, vem, veq, ne_eq, cmpI, arI, dvI, shI, SV.den] at q223745); (have q223746 := hUq.z 223746); (cbv at q223746); (replace q223746 := q223746.eq); (simp only [atI, vem, veq, ne_eq, cmpI, arI, dvI, shI, SV.den] at q223746); (have q223747 := hUq.z 223747); (cbv at q223747); (replace q223747 := q223747.eq); (simp only [atI, vem, veq, ne_eq, cmpI, arI, dvI, shI, SV.den] at q223747); (have q223748 := hUq.z 223748); (cbv at q223748); (replace q223748 := q223748.eq); (simp only [atI, vem, veq, ne_eq, cmpI, arI, dvI, shI, SV.den] at q223748); (have q223749 := hUq.z 223749); (cbv at q223749); (replace q223749 := q223749.eq); (simp only [atI, vem, veq, ne_eq, cmpI, arI, dvI, shI, SV.den] at q223749); (have q223750 := hUq.z 223750); (cbv at q223750); (replace q223750 := q223750.eq); (simp only [atI, vem, veq, ne_eq, cmpI, arI, dvI, shI, SV.den] at q223750); (have q223751 := hUq.z 223751); (cbv at q223751); (replace q223751 := q223751.eq); (simp only [atI, vem, veq, ne_eq, cmpI, arI, dvI, shI, SV.den] at q223751); (have q223752 := hUq.z 223752); (cbv at q223752); (replace q223752 := q223752.eq); (simp only [atI, vem, veq, ne_eq, cmpI, arI, dvI, shI, SV.den] at q223752); (have q223753 := hUq.z 223753); (cbv at q223753); (replace q223753 := q223753.eq); (simp only [atI, vem, veq, ne_eq, cmpI, arI, dvI, shI, SV.den] at q223753); (have q223754 := hUq.z 223754); (cbv at q223754); (replace q223754 := q223754.eq); (simp only [atI, vem, veq, ne_eq, cmpI, arI, dvI, shI, SV.den] at q223754); (have q223755 := hUq.z 223755); (cbv at q223755); (replace q223755 := q223755.eq); (simp only [atI, vem, veq, ne_eq, cmpI, arI, dvI, shI, SV.den] at q223755); (have q223756 := hUq.z 223756); (cbv at q223756); (replace q223756 := q223756.eq); (simp only [atI, vem, veq, ne_eq, cmpI, arI, dvI, shI, SV.den] at q223756); (have q223757 := hUq.z 223757); (cbv at q223757); (replace q223757 := q223757.eq); (simp only [atI, vem, veq, ne_eq, cmpI, arI, dvI, shI, SV.den] at q223757); (have q223758 := hUq.z 223758); (cbv at q223758); (replace q223758 := q223758.eq); (simp only [atI, vem, veq, ne_eq, cmpI, arI, dvI, shI, SV.den] at q223758); (have q223759 := hUq.z 223759); (cbv at q223759); (replace q223759 := q223759.eq); (simp only [atI, vem, veq, ne_eq, cmpI, arI, dvI, shI, SV.den] at q223759); (clear hUq hR2); (try dsimp only [Shp.D, Shp.Ds, Shp.dflt] at *); (try simp only [vem, veq, ne_eq, cmpI, arI, dvI, shI, SV.den, elemAt, convL_self] at *); (try dsimp only [Shp.D, Shp.Ds, Shp.dflt, Shp.dflts] at *))
   all_goals (try ((try dsimp only [Shp.D, Shp.Ds, Shp.dflt] at *); simp only [vem, veq, ne_eq, cmpI, arI, dvI, shI, SV.den, obLt, elemAt, obApp, partL, obPart, lowD, highD, mxOk, convL_self, zerosB, List.length_replicate, vln] at *; (try dsimp only [Shp.D, Shp.Ds, Shp.dflt, Shp.dflts] at *)))
   all_goals
    rw [← q211456, ← q211457, ← q211458, ← q211459, ← q211460, ← q211461, ← q211462, ← q211463, ← q211464, ← q211465, ← q211466, ← q211467, ← q211468, ← q211469, ← q211470, ← q211471, ← q215552, ← q215553, ← q215554, ← q215555, ← q215556, ← q215557, ← q215558, ← q215559, ← q215560, ← q215561, ← q215562, ← q215563, ← q215564, ← q215565, ← q215566, ← q215567, ← q219648, ← q219649, ← q219650, ← q219651, ← q219652, ← q219653, ← q219654, ← q219655, ← q219656, ← q219657, ← q219658, ← q219659, ← q219660, ← q219661, ← q219662, ← q219663, ← q223744, ← q223745, ← q223746, ← q223747, ← q223748, ← q223749, ← q223750, ← q223751, ← q223752, ← q223753, ← q223754, ← q223755, ← q223756, ← q223757, ← q223758, ← q223759, ← qb13]
    have hk := r_bit sc (by omega) (by omega) p2
    refine ⟨by rw [← hk]; exact beq_iff_eq, ?_⟩
    first
     | (have hT : kbit (clampL sc) (z1 12).toNat = 1 := by rw [← hk]; exact h
        exact ⟨p5, p6, p3, p4, (if_pos hT).symm, (if_pos hT).symm, (if_pos hT).symm, (if_pos hT).symm⟩)
     | (have hT : ¬ kbit (clampL sc) (z1 12).toNat = 1 := by rw [← hk]; exact h
        exact ⟨p3, p4, p5, p6, (if_neg hT).symm, (if_neg hT).symm, (if_neg hT).symm, (if_neg hT).symm⟩)
  intro z2 b2 t2 u2 y2 hP2
  obtain ⟨hb, s1, s2, s3, s4, f1, f2, f3, f4⟩ := hP2
  have n1 : sc.length = 32 := by ((try dsimp only [Shp.D, Shp.Ds, Shp.dflt] at *); simp only [vem, veq, ne_eq, cmpI, arI, dvI, shI, SV.den, obLt, elemAt, obApp, partL, obPart, lowD, highD, mxOk, convL_self, zerosB, List.length_replicate, vln] at *; (try dsimp only [Shp.D, Shp.Ds, Shp.dflt, Shp.dflts] at *)); omega
  have n2 : pt.length = 32 := by ((try dsimp only [Shp.D, Shp.Ds, Shp.dflt] at *); simp only [vem, veq, ne_eq, cmpI, arI, dvI, shI, SV.den, obLt, elemAt, obApp, partL, obPart, lowD, highD, mxOk, convL_self, zerosB, List.length_replicate, vln] at *; (try dsimp only [Shp.D, Shp.Ds, Shp.dflt, Shp.dflts] at *)); omega
  have n3 : 0 ≤ z1 12 := by ((try dsimp only [Shp.D, Shp.Ds, Shp.dflt] at *); simp only [vem, veq, ne_eq, cmpI, arI, dvI, shI, SV.den, obLt, elemAt, obApp, partL, obPart, lowD, highD, mxOk, convL_self, zerosB, List.length_replicate, vln] at *; (try dsimp only [Shp.D, Shp.Ds, Shp.dflt, Shp.dflts] at *)); omega
  clear hx hl h
  skip
  revert hE sc pt e1 hE1 z1 b1 t1 u1 y1 R1 hR1 p1 p2 p3 p4 p5 p6 p7 z2 b2 t2 u2 y2 hb s1 s2 s3 s4 f1 f2 f3 f4 n1 n2 n3
  revert E
  exact @HideP.out _ hG
def rmul_1 : HalfP rmul_h.G := by
 apply HalfP.mk
 focus
  intro hG0
  have hG := HideP.mk hG0
  clear hG0
  intro E hE sc pt k1 k2 e1 hE1 z1 b1 t1 u1 y1 R1 hR1 p1 p2 p3 p4 p5 p6 p7 z2 b2 t2 u2 y2 hb s1 s2 s3 s4 f1 f2 f3 f4 n1 n2 n3
  cbv
  (repeat' (first | ((with_reducible apply And.intro <;> intro h) <;> (first | with_reducible exact (tf h (by assumption)).elim | with_reducible exact (tf (by assumption) h).elim | cbv)) | ((fail_if_success (with_reducible show JoinT (fun s K => vc _ (Code.region _ _ true) s K) _ _ _ _ _ _)); (with_reducible refine JoinT.left ?_); cbv) | (with_reducible apply SetsK.at) | (with_reducible apply Closed.nil) | (with_reducible apply Closed.cons) | ((with_reducible first | refine AllP.k0 ?_ | (apply AllP.k1; intro x hx) | (apply AllP.k2; intro x hx x hx) | (apply AllP.k3; intro x hx x hx x hx) | (apply AllP.k4; intro x hx x hx x hx x hx)); cbv) | (with_reducible apply SetIn.at) | ((fail_if_success (with_reducible show SetIn _ _ _ [])); (with_reducible apply SetIn.tl)) | (with_reducible apply SetAt.i0) | (with_reducible apply SetAt.i1 x hx) | (rename_i x1 h1; with_reducible apply SetAt.i2 x1 x h1 hx) | (rename_i x1 h1 x2 h2; with_reducible apply SetAt.i3 x1 x2 x h1 h2 hx) | (rename_i x1 h1 x2 h2 x3 h3; with_reducible apply SetAt.i4 x1 x2 x3 x h1 h2 h3 hx) | ((with_reducible first | refine Cb.mk ?_ | refine Lz.mk ?_ | (apply AllT.mk; intro x hx)); cbv) | ((with_reducible refine Ob.mk (fun _ => ?_) ?_); rotate_left 1) | (with_reducible first | refine Mg.mk (Exists.intro ?_ (And.intro ?_ ?_)) | rfl | refine Fin.mk ?_ | exact True.intro | refine And.intro ?_ ?_)))
  all_goals first
   | (with_reducible show JoinT _ _ _ _ _ _ _; skip)
   | (with_reducible show Goes _ _ _ _; skip)
   | ((try simp only [vem, veq, ne_eq, cmpI, arI, dvI, shI, SV.den]); (with_reducible first | assumption | exact LimF.of3 (by with_reducible assumption) | (refine LimF.eta ?_; first | assumption | exact LimF.of3 (by with_reducible assumption))))
   | (with_reducible rfl)
   | (exact LimF.eta hE1.1.1)
   | (simp only [vem, veq, ne_eq, cmpI, arI, dvI, shI, SV.den]; done)
   | (exfalso; ((try dsimp only [Shp.D, Shp.Ds, Shp.dflt] at *); simp only [vem, veq, ne_eq, cmpI, arI, dvI, shI, SV.den, obLt, elemAt, obApp, partL, obPart, lowD, highD, mxOk, convL_self, zerosB, List.length_replicate, vln] at *; (try dsimp only [Shp.D, Shp.Ds, Shp.dflt, Shp.dflts] at *)); omega)
  with_reducible refine JoinT.dp ?_
  cbv
  (repeat' (first | ((with_reducible apply And.intro <;> intro h) <;> (first | with_reducible exact (tf h (by assumption)).elim | with_reducible exact (tf (by assumption) h).elim | cbv)) | ((fail_if_success (with_reducible show JoinT (fun s K => vc _ (Code.region _ _ true) s K) _ _ _ _ _ _)); (with_reducible refine JoinT.left ?_); cbv) | (with_reducible apply SetsK.at) | (with_reducible apply Closed.nil) | (with_reducible apply Closed.cons) | ((with_reducible first | refine AllP.k0 ?_ | (apply AllP.k1; intro x hx) | (apply AllP.k2; intro x hx x hx) | (apply AllP.k3; intro x hx x hx x hx) | (apply AllP.k4; intro x hx x hx x hx x hx)); cbv) | (with_reducible apply SetIn.at) | ((fail_if_success (with_reducible show SetIn _ _ _ [])); (with_reducible apply SetIn.tl)) | (with_reducible apply SetAt.i0) | (with_reducible apply SetAt.i1 x hx) | (rename_i x1 h1; with_reducible apply SetAt.i2 x1 x h1 hx) | (rename_i x1 h1 x2 h2; with_reducible apply SetAt.i3 x1 x2 x h1 h2 hx) | (rename_i x1 h1 x2 h2 x3 h3; with_reducible apply SetAt.i4 x1 x2 x3 x h1 h2 h3 hx) | ((with_reducible first | refine Cb.mk ?_ | refine Lz.mk ?_ | (apply AllT.mk; intro x hx)); cbv) | ((with_reducible refine Ob.mk (fun _ => ?_) ?_); rotate_left 1) | (with_reducible first | refine Mg.mk (Exists.intro ?_ (And.intro ?_ ?_)) | rfl | refine Fin.mk ?_ | exact True.intro | refine And.intro ?_ ?_)))
  all_goals first
   | (with_reducible show JoinT _ _ _ _ _ _ _; skip)
   | (with_reducible show Goes _ _ _ _; skip)
   | ((try simp only [vem, veq, ne_eq, cmpI, arI, dvI, shI, SV.den]); (with_reducible first | assumption | exact LimF.of3 (by with_reducible assumption) | (refine LimF.eta ?_; first | assumption | exact LimF.of3 (by with_reducible assumption))))
   | (with_reducible rfl)
   | (exact LimF.eta hE1.1.1)
   | (simp only [vem, veq, ne_eq, cmpI, arI, dvI, shI, SV.den]; done)
   | (exfalso; ((try dsimp only [Shp.D, Shp.Ds, Shp.dflt] at *); simp only [vem, veq, ne_eq, cmpI, arI, dvI, shI, SV.den, obLt, elemAt, obApp, partL, obPart, lowD, highD, mxOk, convL_self, zerosB, List.length_replicate, vln] at *; (try dsimp only [Shp.D, Shp.Ds, Shp.dflt, Shp.dflts] at *)); omega)
  with_reducible refine JoinT.dp ?_
  cbv
  (repeat' (first | ((with_reducible apply And.intro <;> intro h) <;> (first | with_reducible exact (tf h (by assumption)).elim | with_reducible exact (tf (by assumption) h).elim | cbv)) | ((fail_if_success (with_reducible show JoinT (fun s K => vc _ (Code.region _ _ true) s K) _ _ _ _ _ _)); (with_reducible refine JoinT.left ?_); cbv) | (with_reducible apply SetsK.at) | (with_reducible apply Closed.nil) | (with_reducible apply Closed.cons) | ((with_reducible first | refine AllP.k0 ?_ | (apply AllP.k1; intro x hx) | (apply AllP.k2; intro x hx x hx) | (apply AllP.k3; intro x hx x hx x hx) | (apply AllP.k4; intro x hx x hx x hx x hx)); cbv) | (with_reducible apply SetIn.at) | ((fail_if_success (with_reducible show SetIn _ _ _ [])); (with_reducible apply SetIn.tl)) | (with_reducible apply SetAt.i0) | (with_reducible apply SetAt.i1 x hx) | (rename_i x1 h1; with_reducible apply SetAt.i2 x1 x h1 hx) | (rename_i x1 h1 x2 h2; with_reducible apply SetAt.i3 x1 x2 x h1 h2 hx) | (rename_i x1 h1 x2 h2 x3 h3; with_reducible apply SetAt.i4 x1 x2 x3 x h1 h2 h3 hx) | ((with_reducible first | refine Cb.mk ?_ | refine Lz.mk ?_ | (apply AllT.mk; intro x hx)); cbv) | ((with_reducible refine Ob.mk (fun _ => ?_) ?_); rotate_left 1) | (with_reducible first | refine Mg.mk (Exists.intro ?_ (And.intro ?_ ?_)) | rfl | refine Fin.mk ?_ | exact True.intro | refine And.intro ?_ ?_)))
  all_goals first
   | (with_reducible show JoinT _ _ _ _ _ _ _; skip)
   | (with_reducible show Goes _ _ _ _; skip)
   | ((try simp only [vem, veq, ne_eq, cmpI, arI, dvI, shI, SV.den]); (with_reducible first | assumption | exact LimF.of3 (by with_reducible assumption) | (refine LimF.eta ?_; first | assumption | exact LimF.of3 (by with_reducible assumption))))
   | (with_reducible rfl)
   | (exact LimF.eta hE1.1.1)
   | (simp only [vem, veq, ne_eq, cmpI, arI, dvI, shI, SV.den]; done)
   | (exfalso; ((try dsimp only [Shp.D, Shp.Ds, Shp.dflt] at *); simp only [vem, veq, ne_eq, cmpI, arI, dvI, shI, SV.den, obLt, elemAt, obApp, partL, obPart, lowD, highD, mxOk, convL_self, zerosB, List.length_replicate, vln] at *; (try dsimp only [Shp.D, Shp.Ds, Shp.dflt, Shp.dflts] at *)); omega)
  rename_i v1 g1 v2 g2 v3 g3 v4 g4 v5 g5 v6 g6 v7 g7 v8 g8
  simp only [vem, veq, ne_eq, cmpI, arI, dvI, shI, SV.den] at g1 g2 g3 g4 g5 g6 g7 g8 hx
  revert hE sc pt k1 k2 e1 hE1 z1 b1 t1 u1 y1 R1 hR1 p1 p2 p3 p4 p5 p6 p7 z2 b2 t2 u2 y2 hb s1 s2 s3 s4 f1 f2 f3 f4 n1 n2 n3 v1 g1 v2 g2 v3 g3 v4 g4 v5 g5 v6 g6 v7 g7 v8 g8 x hx
  revert E
  exact @HideP.out _ hG
def rmul_2 : HalfP rmul_1.G := by
 apply HalfP.mk
 focus
  intro hG0
  have hG := HideP.mk hG0
  clear hG0
  intro E hE sc pt k1 k2 e1 hE1 z1 b1 t1 u1 y1 R1 hR1 p1 p2 p3 p4 p5 p6 p7 z2 b2 t2 u2 y2 hb s1 s2 s3 s4 f1 f2 f3 f4 n1 n2 n3 v1 v2 v3 v4 v5 v6 v7 v8 v9 g1 g2 g3 g4 g5 g6 g7 g8 g9
  with_reducible refine JoinT.dp ?_
  cbv
  (repeat' (first | ((with_reducible apply And.intro <;> intro h) <;> (first | with_reducible exact (tf h (by assumption)).elim | with_reducible exact (tf (by assumption) h).elim | cbv)) | ((fail_if_success (with_reducible show JoinT (fun s K => vc _ (Code.region _ _ true) s K) _ _ _ _ _ _)); (with_reducible refine JoinT.left ?_); cbv) | (with_reducible apply SetsK.at) | (with_reducible apply Closed.nil) | (with_reducible apply Closed.cons) | ((with_reducible first | refine AllP.k0 ?_ | (apply AllP.k1; intro x hx) | (apply AllP.k2; intro x hx x hx) | (apply AllP.k3; intro x hx x hx x hx) | (apply AllP.k4; intro x hx x hx x hx x hx)); cbv) | (with_reducible apply SetIn.at) | ((fail_if_success (with_reducible show SetIn _ _ _ [])); (with_reducible apply SetIn.tl)) | (with_reducible apply SetAt.i0) | (with_reducible apply SetAt.i1 x hx) | (rename_i x1 h1; with_reducible apply SetAt.i2 x1 x h1 hx) | (rename_i x1 h1 x2 h2; with_reducible apply SetAt.i3 x1 x2 x h1 h2 hx) | (rename_i x1 h1 x2 h2 x3 h3; with_reducible apply SetAt.i4 x1 x2 x3 x h1 h2 h3 hx) | ((with_reducible first | refine Cb.mk ?_ | refine Lz.mk ?_ | (apply AllT.mk; intro x hx)); cbv) | ((with_reducible refine Ob.mk (fun _ => ?_) ?_); rotate_left 1) | (with_reducible first | refine Mg.mk (Exists.intro ?_ (And.intro ?_ ?_)) | rfl | refine Fin.mk ?_ | exact True.intro | refine And.intro ?_ ?_)))
  all_goals first
   | (with_reducible show JoinT _ _ _ _ _ _ _; skip)
   | (with_reducible show Goes _ _ _ _; skip)
   | ((try simp only [vem, veq, ne_eq, cmpI, arI, dvI, shI, SV.den]); (with_reducible first | assumption | exact LimF.of3 (by with_reducible assumption) | (refine LimF.eta ?_; first | assumption | exact LimF.of3 (by with_reducible assumption))))
   | (with_reducible rfl)
   | (exact LimF.eta hE1.1.1)
   | (simp only [vem, veq, ne_eq, cmpI, arI, dvI, shI, SV.den]; done)
   | (exfalso; ((try dsimp only [Shp.D, Shp.Ds, Shp.dflt] at *); simp only [vem, veq, ne_eq, cmpI, arI, dvI, shI, SV.den, obLt, elemAt, obApp, partL, obPart, lowD, highD, mxOk, convL_self, zerosB, List.length_replicate, vln] at *; (try dsimp only [Shp.D, Shp.Ds, Shp.dflt, Shp.dflts] at *)); omega)
  rename_i v10 g10
  simp only [vem, veq, ne_eq, cmpI, arI, dvI, shI, SV.den] at g10 hx
  revert hE sc pt k1 k2 e1 hE1 z1 b1 t1 u1 y1 R1 hR1 p1 p2 p3 p4 p5 p6 p7 z2 b2 t2 u2 y2 hb s1 s2 s3 s4 f1 f2 f3 f4 n1 n2 n3 v1 v2 v3 v4 v5 v6 v7 v8 v9 g1 g2 g3 g4 g5 g6 g7 g8 g9 v10 g10 x hx
  revert E
  exact @HideP.out _ hG
def rmul_3 : HalfP rmul_2.G := by
 apply HalfP.mk
 focus
  intro hG0
  have hG := HideP.mk hG0
  clear hG0
  intro E hE sc pt k1 k2 e1 hE1 z1 b1 t1 u1 y1 R1 hR1 p1 p2 p3 p4 p5 p6 p7 z2 b2 t2 u2 y2 hb s1 s2 s3 s4 f1 f2 f3 f4 n1 n2 n3 v1 v2 v3 v4 v5 v6 v7 v8 v9 g1 g2 g3 g4 g5 g6 g7 g8 g9 v10 v11 g10 g11
  with_reducible refine JoinT.dp ?_
  cbv
  (repeat' (first | ((with_reducible apply And.intro <;> intro h) <;> (first | with_reducible exact (tf h (by assumption)).elim | with_reducible exact (tf (by assumption) h).elim | cbv)) | ((fail_if_success (with_reducible show JoinT (fun s K => vc _ (Code.region _ _ true) s K) _ _ _ _ _ _)); (with_reducible refine JoinT.left ?_); cbv) | (with_reducible apply SetsK.at) | (with_reducible apply Closed.nil) | (with_reducible apply Closed.cons) | ((with_reducible first | refine AllP.k0 ?_ | (apply AllP.k1; intro x hx) | (apply AllP.k2; intro x hx x hx) | (apply AllP.k3; intro x hx x hx x hx) | (apply AllP.k4; intro x hx x hx x hx x hx)); cbv) | (with_reducible apply SetIn.at) | ((fail_if_success (with_reducible show SetIn _ _ _ [])); (with_reducible apply SetIn.tl)) | (with_reducible apply SetAt.i0) | (with_reducible apply SetAt.i1 x hx) | (rename_i x1 h1; with_reducible apply SetAt.i2 x1 x h1 hx) | (rename_i x1 h1 x2 h2; with_reducible apply SetAt.i3 x1 x2 x h1 h2 hx) | (rename_i x1 h1 x2 h2 x3 h3; with_reducible apply SetAt.i4 x1 x2 x3 x h1 h2 h3 hx) | ((with_reducible first | refine Cb.mk ?_ | refine Lz.mk ?_ | (apply AllT.mk; intro x hx)); cbv) | ((with_reducible refine Ob.mk (fun _ => ?_) ?_); rotate_left 1) | (with_reducible first | refine Mg.mk (Exists.intro ?_ (And.intro ?_ ?_)) | rfl | refine Fin.mk ?_ | exact True.intro | refine And.intro ?_ ?_)))
  all_goals first
   | (with_reducible show JoinT _ _ _ _ _ _ _; skip)
   | (with_reducible show Goes _ _ _ _; skip)
   | ((try simp only [vem, veq, ne_eq, cmpI, arI, dvI, shI, SV.den]); (with_reducible first | assumption | exact LimF.of3 (by with_reducible assumption) | (refine LimF.eta ?_; first | assumption | exact LimF.of3 (by with_reducible assumption))))
   | (with_reducible rfl)
   | (exact LimF.eta hE1.1.1)
   | (simp only [vem, veq, ne_eq, cmpI, arI, dvI, shI, SV.den]; done)
   | (exfalso; ((try dsimp only [Shp.D, Shp.Ds, Shp.dflt] at *); simp only [vem, veq, ne_eq, cmpI, arI, dvI, shI, SV.den, obLt, elemAt, obApp, partL, obPart, lowD, highD, mxOk, convL_self, zerosB, List.length_replicate, vln] at *; (try dsimp only [Shp.D, Shp.Ds, Shp.dflt, Shp.dflts] at *)); omega)
  rename_i v12 g12 v13 g13
  simp only [vem, veq, ne_eq, cmpI, arI, dvI, shI, SV.den] at g12 g13 hx
  revert hE sc pt k1 k2 e1 hE1 z1 b1 t1 u1 y1 R1 hR1 p1 p2 p3 p4 p5 p6 p7 z2 b2 t2 u2 y2 hb s1 s2 s3 s4 f1 f2 f3 f4 n1 n2 n3 v1 v2 v3 v4 v5 v6 v7 v8 v9 g1 g2 g3 g4 g5 g6 g7 g8 g9 v10 v11 g10 g11 v12 g12 v13 g13 x hx
  revert E
  exact @HideP.out _ hG
end Go.Proofs.Ytihnagafldpbnaa.V
