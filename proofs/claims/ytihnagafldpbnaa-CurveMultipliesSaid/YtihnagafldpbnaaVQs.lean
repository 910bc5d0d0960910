/- ref14: Shared; the law CurveMultiplies. -/
import Derived.Test.YtihnagafldpbnaaVQn
import Derived.Test.YtihnagafldpbnaaVUp
import Derived.Test.YtihnagafldpbnaaVL
set_option linter.unusedVariables false
set_option linter.unusedSimpArgs false
namespace Go.Proofs.Ytihnagafldpbnaa.V
open Go.RowKit
set_option maxHeartbeats 80000000
set_option maxRecDepth 100000
def sB (l : List UInt8) : Nat → Int
 | 0 => 0
 | n + 1 => sB l n + ((l.getD n 0).toNat : Int)
theorem sB_lim (l : List UInt8) (n : Nat) : 0 ≤ sB l n ∧ sB l n ≤ 255 * n := by
 induction n with
 | zero => exact ⟨by rw [sB]; omega, by rw [sB]; omega⟩
 | succ n ih =>
   have := (l.getD n 0).toNat_lt
   rw [sB]
   omega
theorem sB_0 {l : List UInt8} {n : Nat} (h : sB l n = 0) (i : Nat) (hi : i < n) : l.getD i 0 = 0 := by
 induction n with
 | zero => omega
 | succ n ih =>
   have k := sB_lim l n
   rw [sB] at h
   rcases (by omega : i < n ∨ i = n) with e | e
   ·exact ih (by omega) e
   ·subst e
    exact UInt8.toNat_inj.1 (by rw [show (0 : UInt8).toNat = 0 from rfl]; omega)
theorem sB_n {l : List UInt8} {n : Nat} (h : ¬ sB l n = 0) : ∃ i, i < n ∧ ¬ l.getD i 0 = 0 := by
 induction n with
 | zero => exact absurd rfl h
 | succ n ih =>
   by_cases e : l.getD n 0 = 0
   ·rw [sB, e] at h
    obtain ⟨i, k1, k2⟩ := ih (fun k => h (by rw [k]; rfl))
    exact ⟨i, by omega, k2⟩
   ·exact ⟨n, by omega, e⟩
theorem mulF_len {s p b : List UInt8} {e : Int} (h : (b, e) = mulF s p) (he : e = 0) : b.length = 32 := by
 subst he
 unfold mulF at h
 split at h
 ·rw [Prod.mk.injEq] at h
  rw [h.1, leB_len]
 ·rw [Prod.mk.injEq] at h
  exact absurd h.2 (by decide)
theorem rs_hit {s p b : List UInt8} {e z v : Int} (h : (b, e) = mulF s p) (he : e = 0) (hz : 0 ≤ z) (h2 : z ≤ 32) (hv : v = sB b z.toNat) (hn : ¬ v = 0) : (b, 0) = sharF s p := by
 subst hv
 obtain ⟨i, k1, k2⟩ := sB_n hn
 exact sh_hit h he (by rw [mulF_len h he]; omega) k2
theorem rs_no {s p b : List UInt8} {e z v : Int} (h : (b, e) = mulF s p) (he : e = 0) (hz : 32 ≤ z) (hv : v = sB b z.toNat) (hn : v = 0) : ([], 13) = sharF s p := by
 subst hv
 exact sh_no h he (fun i hi => sB_0 hn i (by rw [mulF_len h he] at hi; omega))
def rsC_t : SpecT := lf0 11 (rmulSp)
def rsC : Cx := ⟨tt, qt, bt, st, rsC_t, 0, 1000000000000000, fun _ => none, false, CxE.no, []⟩
theorem rsC_si {E : Env} (h : E.ok) : SpecsOk Try.prog E (CxE.no) rsC_t (fun _ => none) := ⟨(lf0_ok (.inl (rmul_sp h))), noI_ok _ _ _⟩
theorem rsC_x {E : Env} (h : E.ok) : CxEOk Try.prog E (CxE.no) := CxE.no_ok _ _
theorem rsC_cx (E : Env) (h : E.ok) (h1 : E.lo = 0) (h2 : E.hi = 1000000000000000) : Cx.ok rsC Try.prog E := ⟨tt_ok, qt_ok, bt_ok, rsC_si h, h, h1, h2, mixed_ok, rsC_x h⟩
theorem rsC_from (lo hi : Nat) (E : Env) (h : E.ok) (h1 : E.lo = lo) (h2 : E.hi = hi) : Cx.ok (Cx.from rsC lo hi) Try.prog E := ⟨tt_ok, qt_ok, bt_ok, rsC_si h, h, h1, h2, mixed_ok, rsC_x h⟩
abbrev rshSp : Spec := fnSpec [.sl .byte, .sl .byte] [.sl .byte, .int .i64] [5] (fun _ => True) fun (x : Shp.Ds [.sl .byte, .sl .byte]) (y : Shp.Ds [.sl .byte, .int .i64]) => (y.1, y.2.1) = sharF x.1 x.2.1
theorem rsh_fn : hasFn Try.prog 14 := ⟨_, Try.func14, by rfl, by rfl⟩
theorem rsh_sp {E : Env} (hE : E.ok) : SpecOk Try.prog E 14 rshSp := by
 refine spec_of_vc (C := rsC) rsh_fn Try.func14 (by kernel_rfl) rsC_cx (fun x hl hx => ?_) hE
 obtain ⟨sc, pt, ⟨⟩⟩ := x
 cbv
 (repeat' (first | ((with_reducible apply And.intro <;> intro h) <;> (first | with_reducible exact (tf h (by assumption)).elim | with_reducible exact (tf (by assumption) h).elim | cbv)) | ((with_reducible show JoinT (fun s K => vc _ (Code.region _ _ true) s K) _ _ _ _ _ _); (with_reducible apply JoinT.mg2); (focus (cbv; (repeat' (first | ((with_reducible apply And.intro <;> intro h) <;> (first | with_reducible exact (tf h (by assumption)).elim | with_reducible exact (tf (by assumption) h).elim | cbv)) | ((with_reducible first | refine Cb.mk ?_ | refine Lz.mk ?_ | refine JoinT.left ?_ | (apply AllT.mk; intro x hx)); cbv) | ((with_reducible refine Ob.mk (fun _ => ?_) ?_); rotate_left 1) | (with_reducible first | refine Mg.mk (Exists.intro ?_ (And.intro ?_ ?_)) | rfl | refine Fin.mk ?_ | exact True.intro | refine And.intro ?_ ?_))); (all_goals (try (have du : Unit := (); have dv : Unit := (); first | exact Goes.self (Ex2.mk ⟨dv, du, trivial, trivial, rfl⟩) | exact Goes.self (Ex2.mk ⟨x, du, hx, trivial, rfl⟩) | (rename_i xa hxa; exact Goes.self (Ex2.mk ⟨xa, x, hxa, hx, rfl⟩))))); (all_goals (fail_if_success (with_reducible first | show Goes _ _ _ _ | show (∃ _, unr _ _ _ _ _ _))))))) | ((with_reducible first | refine Cb.mk ?_ | refine Lz.mk ?_ | refine JoinT.left ?_ | (apply AllT.mk; intro x hx)); cbv) | ((with_reducible refine Ob.mk (fun _ => ?_) ?_); rotate_left 1) | (with_reducible first | refine Mg.mk (Exists.intro ?_ (And.intro ?_ ?_)) | rfl | refine Fin.mk ?_ | exact True.intro | refine And.intro ?_ ?_)))
 all_goals first | (with_reducible show (∃ _, unr _ _ _ _ _ _); skip) | (with_reducible show UnrI _ _ _ _ _; skip) | (with_reducible show Goes _ _ _ _; skip) | (with_reducible show JoinT _ _ _ _ _ _ _; skip) | (first | ((try dsimp only [Shp.D, Shp.Ds, Shp.dflt] at *); simp only [vem, veq, ne_eq, cmpI, arI, dvI, shI, SV.den, obLt, elemAt, obApp, partL, obPart, lowD, highD, mxOk, convL_self, zerosB, List.length_replicate, vln] at *; (try dsimp only [Shp.D, Shp.Ds, Shp.dflt, Shp.dflts] at *); done) | ((try dsimp only [Shp.D, Shp.Ds, Shp.dflt] at *); simp only [vem, veq, ne_eq, cmpI, arI, dvI, shI, SV.den, obLt, elemAt, obApp, partL, obPart, lowD, highD, mxOk, convL_self, zerosB, List.length_replicate, vln] at *; (try dsimp only [Shp.D, Shp.Ds, Shp.dflt, Shp.dflts] at *); omega) | (((try dsimp only [Shp.D, Shp.Ds, Shp.dflt] at *); simp only [vem, veq, ne_eq, cmpI, arI, dvI, shI, SV.den, obLt, elemAt, obApp, partL, obPart, lowD, highD, mxOk, convL_self, zerosB, List.length_replicate, vln] at *; (try dsimp only [Shp.D, Shp.Ds, Shp.dflt, Shp.dflts] at *)); exact sh_err hx.1 h))
 obtain ⟨e1, he1⟩ : ∃ e, e = x := ⟨x, rfl⟩
 subst he1
 have he : e1.2.1 = 0 := by ((try dsimp only [Shp.D, Shp.Ds, Shp.dflt] at *); simp only [vem, veq, ne_eq, cmpI, arI, dvI, shI, SV.den, obLt, elemAt, obApp, partL, obPart, lowD, highD, mxOk, convL_self, zerosB, List.length_replicate, vln] at *; (try dsimp only [Shp.D, Shp.Ds, Shp.dflt, Shp.dflts] at *)); assumption
 have hl32 := mulF_len hx.1 he
 with_reducible refine loop_hv [] (rangeN 19 11) [] [] (fun z b t y => 0 ≤ z 9 ∧ z 9 ≤ 32 ∧ z 8 = sB e1.1 (z 9).toNat) (fun z b t y => (32 - z 9).toNat) (by cbv) (by cbv) ?_ ?_ (fun z1 b1 t1 u1 y1 R1 hP1 hR1 => ?_)
 ·refine EndOk.mk (by cbv) (by cbv) (by cbv; repeat' (first | exact True.intro | exact rfl | with_reducible refine And.intro ?_ ?_)) (by cbv; repeat' (first | exact True.intro | exact rfl | with_reducible refine And.intro ?_ ?_)) (by cbv; repeat' (first | exact True.intro | exact rfl | with_reducible refine And.intro ?_ ?_))
 ·intro zq bq tq yq hUq
  have q8 := hUq.z 8
  cbv at q8
  replace q8 := q8.eq
  simp only [atI, vem, veq, ne_eq, cmpI, arI, dvI, shI, SV.den] at q8
  have q9 := hUq.z 9
  cbv at q9
  replace q9 := q9.eq
  simp only [atI, vem, veq, ne_eq, cmpI, arI, dvI, shI, SV.den] at q9
  clear hUq
  try dsimp only [Shp.D, Shp.Ds, Shp.dflt] at *
  try simp only [vem, veq, ne_eq, cmpI, arI, dvI, shI, SV.den, convL_self] at *
  rw [← q8, ← q9]
  exact ⟨by omega, by omega, rfl⟩
 obtain ⟨p1, p2, p3⟩ := hP1
 have lim1 := sB_lim e1.1 (z1 9).toNat
 cbv
 (repeat' (first | ((with_reducible apply And.intro <;> intro h) <;> (first | with_reducible exact (tf h (by assumption)).elim | with_reducible exact (tf (by assumption) h).elim | cbv)) | ((with_reducible show JoinT (fun s K => vc _ (Code.region _ _ true) s K) _ _ _ _ _ _); (with_reducible apply JoinT.mg2); (focus (cbv; (repeat' (first | ((with_reducible apply And.intro <;> intro h) <;> (first | with_reducible exact (tf h (by assumption)).elim | with_reducible exact (tf (by assumption) h).elim | cbv)) | ((with_reducible first | refine Cb.mk ?_ | refine Lz.mk ?_ | refine JoinT.left ?_ | (apply AllT.mk; intro x hx)); cbv) | ((with_reducible refine Ob.mk (fun _ => ?_) ?_); rotate_left 1) | (with_reducible first | refine Mg.mk (Exists.intro ?_ (And.intro ?_ ?_)) | rfl | refine Fin.mk ?_ | exact True.intro | refine And.intro ?_ ?_))); (all_goals (try (have du : Unit := (); have dv : Unit := (); first | exact Goes.self (Ex2.mk ⟨dv, du, trivial, trivial, rfl⟩) | exact Goes.self (Ex2.mk ⟨x, du, hx, trivial, rfl⟩) | (rename_i xa hxa; exact Goes.self (Ex2.mk ⟨xa, x, hxa, hx, rfl⟩))))); (all_goals (fail_if_success (with_reducible first | show Goes _ _ _ _ | show (∃ _, unr _ _ _ _ _ _))))))) | ((with_reducible first | refine Cb.mk ?_ | refine Lz.mk ?_ | refine JoinT.left ?_ | (apply AllT.mk; intro x hx)); cbv) | ((with_reducible refine Ob.mk (fun _ => ?_) ?_); rotate_left 1) | (with_reducible first | refine Mg.mk (Exists.intro ?_ (And.intro ?_ ?_)) | rfl | refine Fin.mk ?_ | exact True.intro | refine And.intro ?_ ?_)))
 all_goals first
  | (with_reducible show Goes _ _ _ _; skip)
  | ((try dsimp only [Shp.D, Shp.Ds, Shp.dflt] at *); simp only [vem, veq, ne_eq, cmpI, arI, dvI, shI, SV.den, obLt, elemAt, obApp, partL, obPart, lowD, highD, mxOk, convL_self, zerosB, List.length_replicate, vln] at *; (try dsimp only [Shp.D, Shp.Ds, Shp.dflt, Shp.dflts] at *); done)
  | (((try dsimp only [Shp.D, Shp.Ds, Shp.dflt] at *); simp only [vem, veq, ne_eq, cmpI, arI, dvI, shI, SV.den, obLt, elemAt, obApp, partL, obPart, lowD, highD, mxOk, convL_self, zerosB, List.length_replicate, vln] at *; (try dsimp only [Shp.D, Shp.Ds, Shp.dflt, Shp.dflts] at *)); omega)
  | (((try dsimp only [Shp.D, Shp.Ds, Shp.dflt] at *); simp only [vem, veq, ne_eq, cmpI, arI, dvI, shI, SV.den, obLt, elemAt, obApp, partL, obPart, lowD, highD, mxOk, convL_self, zerosB, List.length_replicate, vln] at *; (try dsimp only [Shp.D, Shp.Ds, Shp.dflt, Shp.dflts] at *)); exact rs_hit hx.1 he p1 p2 p3 h)
  | (((try dsimp only [Shp.D, Shp.Ds, Shp.dflt] at *); simp only [vem, veq, ne_eq, cmpI, arI, dvI, shI, SV.den, obLt, elemAt, obApp, partL, obPart, lowD, highD, mxOk, convL_self, zerosB, List.length_replicate, vln] at *; (try dsimp only [Shp.D, Shp.Ds, Shp.dflt, Shp.dflts] at *)); exact rs_no hx.1 he (by omega) p3 h)
 all_goals
  (((with_reducible refine hR1 _ ?_ (fun zq bq tq yq hUq => ?_)); (focus (refine EndOk.mk (by cbv) (by cbv) (by cbv; repeat' (first | exact True.intro | exact rfl | with_reducible refine And.intro ?_ ?_)) (by cbv; repeat' (first | exact True.intro | exact rfl | with_reducible refine And.intro ?_ ?_)) (by cbv; repeat' (first | exact True.intro | exact rfl | with_reducible refine And.intro ?_ ?_)))); (have q8 := hUq.z 8); (cbv at q8); (replace q8 := q8.eq); (simp only [atI, vem, veq, ne_eq, cmpI, arI, dvI, shI, SV.den] at q8); (have q9 := hUq.z 9); (cbv at q9); (replace q9 := q9.eq); (simp only [atI, vem, veq, ne_eq, cmpI, arI, dvI, shI, SV.den] at q9); (clear hUq hR1); (try dsimp only [Shp.D, Shp.Ds, Shp.dflt] at *); (try simp only [vem, veq, ne_eq, cmpI, arI, dvI, shI, SV.den, elemAt, convL_self] at *); (try dsimp only [Shp.D, Shp.Ds, Shp.dflt, Shp.dflts] at *))); (try ((try dsimp only [Shp.D, Shp.Ds, Shp.dflt] at *); simp only [vem, veq, ne_eq, cmpI, arI, dvI, shI, SV.den, obLt, elemAt, obApp, partL, obPart, lowD, highD, mxOk, convL_self, zerosB, List.length_replicate, vln] at *; (try dsimp only [Shp.D, Shp.Ds, Shp.dflt, Shp.dflts] at *)))
  refine ⟨⟨by omega, by omega, ?_⟩, by omega⟩
  rw [show (zq 9).toNat = (z1 9).toNat + 1 by omega, sB, ← p3]
  have := (e1.1.getD (z1 9).toNat 0).toNat_lt
  omega
theorem two_e {a b : List UInt8 × Int × PUnit} {m : List UInt8 × Int} {p q : Prop} (h1 : (a.1, a.2.1) = m ∧ p) (h2 : (b.1, b.2.1) = m ∧ q) : a.1 = b.1 ∧ a.2.1 = b.2.1 := by
 have k := h1.1.trans h2.1.symm
 rw [Prod.mk.injEq] at k
 exact k
theorem two_ne {a b : List UInt8 × Int × PUnit} {m : List UInt8 × Int} {p q : Prop} (h : ¬ a.2.1 = b.2.1) (h1 : (a.1, a.2.1) = m ∧ p) (h2 : (b.1, b.2.1) = m ∧ q) : False := h (two_e h1 h2).2
theorem two_t {c : Bool × PUnit} {a b : List UInt8 × Int × PUnit} {m : List UInt8 × Int} {p q r : Prop} (hx : c.1 = decide (a.1 = b.1) ∧ r) (h1 : (a.1, a.2.1) = m ∧ p) (h2 : (b.1, b.2.1) = m ∧ q) : c.1 = true := by
 rw [hx.1, decide_eq_true_iff]
 exact (two_e h1 h2).1
theorem two_n {c : Bool × PUnit} {a b : List UInt8 × Int × PUnit} {m : List UInt8 × Int} {p q r : Prop} (h : (!c.1) = true) (hx : c.1 = decide (a.1 = b.1) ∧ r) (h1 : (a.1, a.2.1) = m ∧ p) (h2 : (b.1, b.2.1) = m ∧ q) : False := by
 rw [two_t hx h1 h2] at h
 cases h
theorem two_f {c : Bool × PUnit} {a b : List UInt8 × Int × PUnit} {m : List UInt8 × Int} {p q r : Prop} (h : c.1 = false) (hx : c.1 = decide (a.1 = b.1) ∧ r) (h1 : (a.1, a.2.1) = m ∧ p) (h2 : (b.1, b.2.1) = m ∧ q) : False := by
 rw [two_t hx h1 h2] at h
 cases h
def mulC_t : SpecT := nd0 11 (nd0 9 (nd0 8 (lf0 7 (aw14Sp)) (lf0 8 (newSpec 39))) (nd0 10 (lf0 9 (drSpec 39 [.int .i64] [.sl .byte] [.own 5] (fun x => x.1 ≤ 1048576) (fun x y => (y.1.length : Int) = max 0 x.1))) (lf0 10 (mulSp14)))) (nd0 13 (nd0 12 (lf0 11 (rmulSp)) (lf0 12 (eqSp))) (nd0 14 (lf0 13 (shSp)) (lf0 14 (rshSp))))
def mulC : Cx := ⟨tt, qt, bt, st, mulC_t, 0, 1000000000000000, fun _ => none, false, CxE.no, []⟩
theorem mulC_si {E : Env} (h : E.ok) : SpecsOk Try.prog E (CxE.no) mulC_t (fun _ => none) := ⟨(nd0_ok (nd0_ok (nd0_ok (lf0_ok (.inl (aw14_sp h))) (lf0_ok (.inl (new_sp h)))) (nd0_ok (lf0_ok (.inl (bytes_sp h))) (lf0_ok (.inl (mty_sp h))))) (nd0_ok (nd0_ok (lf0_ok (.inl (rmul_sp h))) (lf0_ok (.inl (reql_sp h)))) (nd0_ok (lf0_ok (.inl (sh_sp h))) (lf0_ok (.inl (rsh_sp h)))))), noI_ok _ _ _⟩
theorem mulC_x {E : Env} (h : E.ok) : CxEOk Try.prog E (CxE.no) := CxE.no_ok _ _
theorem mulC_cx (E : Env) (h : E.ok) (h1 : E.lo = 0) (h2 : E.hi = 1000000000000000) : Cx.ok mulC Try.prog E := ⟨tt_ok, qt_ok, bt_ok, mulC_si h, h, h1, h2, mixed_ok, mulC_x h⟩
theorem mulC_from (lo hi : Nat) (E : Env) (h : E.ok) (h1 : E.lo = lo) (h2 : E.hi = hi) : Cx.ok (Cx.from mulC lo hi) Try.prog E := ⟨tt_ok, qt_ok, bt_ok, mulC_si h, h, h1, h2, mixed_ok, mulC_x h⟩
abbrev mulAs : List Shp := [.sl .byte, .sl .byte, .sl .byte, .int .u8]
theorem mul_vc (x : Shp.Ds mulAs) (hi : inrs mulAs x) : vcLaw mulC Try.f3 mulAs x := by
 obtain ⟨codes, scalar, point, kind, u⟩ := x
 have hv : 0 ≤ kind ∧ kind ≤ 255 := by
  have h : IntKind.u8.min ≤ kind ∧ kind ≤ IntKind.u8.max := hi.2.2.2.1
  rw [show IntKind.u8.min = 0 by decide, show IntKind.u8.max = 255 by decide] at h
  exact h
 clear hi
 have hw1 : ∀ v m : Int, 0 < m → m ≤ 256 → 0 ≤ (IntKind.u8.wrap v).tmod m ∧ (IntKind.u8.wrap v).tmod m < 256 := fun v m h0 h1 => by
  rw [IntKind.wrap_u8, Int.tmod_eq_emod_of_nonneg (by omega)]
  have a := Int.emod_nonneg (v % 256) (show m ≠ 0 by omega)
  have b := Int.emod_lt_of_pos (v % 256) h0
  omega
 have hw2 : ∀ v : Int, 0 ≤ IntKind.u8.wrap v ∧ IntKind.u8.wrap v < 256 := fun v => by
  rw [IntKind.wrap_u8]
  omega
 cbv
 (repeat' (first | ((with_reducible apply And.intro <;> intro h) <;> (first | with_reducible exact (tf h (by assumption)).elim | with_reducible exact (tf (by assumption) h).elim | cbv)) | ((with_reducible show JoinT (fun s K => vc _ (Code.region _ _ true) s K) _ _ _ _ _ _); (with_reducible apply JoinT.mg2); (focus (cbv; (repeat' (first | ((with_reducible apply And.intro <;> intro h) <;> (first | with_reducible exact (tf h (by assumption)).elim | with_reducible exact (tf (by assumption) h).elim | cbv)) | ((with_reducible first | refine Cb.mk ?_ | refine Lz.mk ?_ | refine JoinT.left ?_ | (apply AllT.mk; intro x hx)); cbv) | ((with_reducible refine Ob.mk (fun _ => ?_) ?_); rotate_left 1) | (with_reducible first | refine Mg.mk (Exists.intro ?_ (And.intro ?_ ?_)) | rfl | refine Fin.mk ?_ | exact True.intro | refine And.intro ?_ ?_))); (all_goals (try (have du : Unit := (); have dv : Unit := (); first | exact Goes.self (Ex2.mk ⟨dv, du, trivial, trivial, rfl⟩) | exact Goes.self (Ex2.mk ⟨x, du, hx, trivial, rfl⟩) | (rename_i xa hxa; exact Goes.self (Ex2.mk ⟨xa, x, hxa, hx, rfl⟩))))); (all_goals (fail_if_success (with_reducible first | show Goes _ _ _ _ | show (∃ _, unr _ _ _ _ _ _))))))) | ((with_reducible first | refine Cb.mk ?_ | refine Lz.mk ?_ | refine JoinT.left ?_ | (apply AllT.mk; intro x hx)); cbv) | ((with_reducible refine Ob.mk (fun _ => ?_) ?_); rotate_left 1) | (with_reducible first | refine Mg.mk (Exists.intro ?_ (And.intro ?_ ?_)) | rfl | refine Fin.mk ?_ | exact True.intro | refine And.intro ?_ ?_)))
 all_goals first | (with_reducible show (∃ _, unr _ _ _ _ _ _); skip) | (with_reducible show UnrI _ _ _ _ _; skip) | (with_reducible show Goes _ _ _ _; skip) | (with_reducible show JoinT _ _ _ _ _ _ _; skip) | (first | ((try dsimp only [Shp.D, Shp.Ds, Shp.dflt] at *); simp only [vem, veq, ne_eq, cmpI, arI, dvI, shI, SV.den, obLt, elemAt, obApp, partL, obPart, lowD, highD, mxOk, convL_self, zerosB, List.length_replicate, vln] at *; (try dsimp only [Shp.D, Shp.Ds, Shp.dflt, Shp.dflts] at *); done) | ((try dsimp only [Shp.D, Shp.Ds, Shp.dflt] at *); simp only [vem, veq, ne_eq, cmpI, arI, dvI, shI, SV.den, obLt, elemAt, obApp, partL, obPart, lowD, highD, mxOk, convL_self, zerosB, List.length_replicate, vln] at *; (try dsimp only [Shp.D, Shp.Ds, Shp.dflt, Shp.dflts] at *); omega) | (((try dsimp only [Shp.D, Shp.Ds, Shp.dflt] at *); simp only [vem, veq, ne_eq, cmpI, arI, dvI, shI, SV.den, obLt, elemAt, obApp, partL, obPart, lowD, highD, mxOk, convL_self, zerosB, List.length_replicate, vln] at *; (try dsimp only [Shp.D, Shp.Ds, Shp.dflt, Shp.dflts] at *)); simp_all; done) | (((try dsimp only [Shp.D, Shp.Ds, Shp.dflt] at *); simp only [vem, veq, ne_eq, cmpI, arI, dvI, shI, SV.den, obLt, elemAt, obApp, partL, obPart, lowD, highD, mxOk, convL_self, zerosB, List.length_replicate, vln] at *; (try dsimp only [Shp.D, Shp.Ds, Shp.dflt, Shp.dflts] at *)); exact (hw1 _ _ (by decide) (by decide)).1) | (((try dsimp only [Shp.D, Shp.Ds, Shp.dflt] at *); simp only [vem, veq, ne_eq, cmpI, arI, dvI, shI, SV.den, obLt, elemAt, obApp, partL, obPart, lowD, highD, mxOk, convL_self, zerosB, List.length_replicate, vln] at *; (try dsimp only [Shp.D, Shp.Ds, Shp.dflt, Shp.dflts] at *)); exact (hw1 _ _ (by decide) (by decide)).2))
 with_reducible refine loop_hv [] (12 :: rangeN 39 5) [] [1576] (fun z b t y => 0 ≤ z 38 ∧ z 38 ≤ 32 ∧ (y 1576 .byte).length = 32) (fun z b t y => (32 - z 38).toNat) (by cbv) (by cbv) ?_ ?_ (fun z1 b1 t1 u1 y1 R1 hP1 hR1 => ?_)
 ·refine EndOk.mk (by cbv) (by cbv) (by cbv; repeat' (first | exact True.intro | exact rfl | with_reducible refine And.intro ?_ ?_)) (by cbv; repeat' (first | exact True.intro | exact rfl | with_reducible refine And.intro ?_ ?_)) (by cbv; repeat' (first | exact True.intro | exact rfl | with_reducible refine And.intro ?_ ?_))
 ·intro zq bq tq yq hUq
  have q38 := hUq.z 38
  cbv at q38
  replace q38 := q38.eq
  simp only [atI, vem, veq, ne_eq, cmpI, arI, dvI, shI, SV.den] at q38
  have qy1576 := hUq.y 1576 (.byte)
  cbv at qy1576
  replace qy1576 := qy1576.eq
  simp only [atY, convL_self, vem, veq, ne_eq, cmpI, arI, dvI, shI, SV.den] at qy1576
  clear hUq
  try dsimp only [Shp.D, Shp.Ds, Shp.dflt] at *
  try simp only [vem, veq, ne_eq, cmpI, arI, dvI, shI, SV.den, convL_self] at *
  rw [← q38, ← qy1576]
  exact ⟨by omega, by omega, by have := hx.1; omega⟩
 obtain ⟨p1, p2, p3⟩ := hP1
 cbv
 (repeat' (first | ((with_reducible apply And.intro <;> intro h) <;> (first | with_reducible exact (tf h (by assumption)).elim | with_reducible exact (tf (by assumption) h).elim | cbv)) | ((with_reducible show JoinT (fun s K => vc _ (Code.region _ _ true) s K) _ _ _ _ _ _); (with_reducible apply JoinT.mg2); (focus (cbv; (repeat' (first | ((with_reducible apply And.intro <;> intro h) <;> (first | with_reducible exact (tf h (by assumption)).elim | with_reducible exact (tf (by assumption) h).elim | cbv)) | ((with_reducible first | refine Cb.mk ?_ | refine Lz.mk ?_ | refine JoinT.left ?_ | (apply AllT.mk; intro x hx)); cbv) | ((with_reducible refine Ob.mk (fun _ => ?_) ?_); rotate_left 1) | (with_reducible first | refine Mg.mk (Exists.intro ?_ (And.intro ?_ ?_)) | rfl | refine Fin.mk ?_ | exact True.intro | refine And.intro ?_ ?_))); (all_goals (try (have du : Unit := (); have dv : Unit := (); first | exact Goes.self (Ex2.mk ⟨dv, du, trivial, trivial, rfl⟩) | exact Goes.self (Ex2.mk ⟨x, du, hx, trivial, rfl⟩) | (rename_i xa hxa; exact Goes.self (Ex2.mk ⟨xa, x, hxa, hx, rfl⟩))))); (all_goals (fail_if_success (with_reducible first | show Goes _ _ _ _ | show (∃ _, unr _ _ _ _ _ _))))))) | ((with_reducible first | refine Cb.mk ?_ | refine Lz.mk ?_ | refine JoinT.left ?_ | (apply AllT.mk; intro x hx)); cbv) | ((with_reducible refine Ob.mk (fun _ => ?_) ?_); rotate_left 1) | (with_reducible first | refine Mg.mk (Exists.intro ?_ (And.intro ?_ ?_)) | rfl | refine Fin.mk ?_ | exact True.intro | refine And.intro ?_ ?_)))
 all_goals first | (with_reducible show (∃ _, unr _ _ _ _ _ _); skip) | (with_reducible show UnrI _ _ _ _ _; skip) | (with_reducible show Goes _ _ _ _; skip) | (with_reducible show JoinT _ _ _ _ _ _ _; skip) | (first | ((try dsimp only [Shp.D, Shp.Ds, Shp.dflt] at *); simp only [vem, veq, ne_eq, cmpI, arI, dvI, shI, SV.den, obLt, elemAt, obApp, partL, obPart, lowD, highD, mxOk, convL_self, zerosB, List.length_replicate, vln] at *; (try dsimp only [Shp.D, Shp.Ds, Shp.dflt, Shp.dflts] at *); done) | ((try dsimp only [Shp.D, Shp.Ds, Shp.dflt] at *); simp only [vem, veq, ne_eq, cmpI, arI, dvI, shI, SV.den, obLt, elemAt, obApp, partL, obPart, lowD, highD, mxOk, convL_self, zerosB, List.length_replicate, vln] at *; (try dsimp only [Shp.D, Shp.Ds, Shp.dflt, Shp.dflts] at *); omega) | (((try dsimp only [Shp.D, Shp.Ds, Shp.dflt] at *); simp only [vem, veq, ne_eq, cmpI, arI, dvI, shI, SV.den, obLt, elemAt, obApp, partL, obPart, lowD, highD, mxOk, convL_self, zerosB, List.length_replicate, vln] at *; (try dsimp only [Shp.D, Shp.Ds, Shp.dflt, Shp.dflts] at *)); exact (hw2 _).1) | (((try dsimp only [Shp.D, Shp.Ds, Shp.dflt] at *); simp only [vem, veq, ne_eq, cmpI, arI, dvI, shI, SV.den, obLt, elemAt, obApp, partL, obPart, lowD, highD, mxOk, convL_self, zerosB, List.length_replicate, vln] at *; (try dsimp only [Shp.D, Shp.Ds, Shp.dflt, Shp.dflts] at *)); exact (hw2 _).2) | (((try dsimp only [Shp.D, Shp.Ds, Shp.dflt] at *); simp only [vem, veq, ne_eq, cmpI, arI, dvI, shI, SV.den, obLt, elemAt, obApp, partL, obPart, lowD, highD, mxOk, convL_self, zerosB, List.length_replicate, vln] at *; (try dsimp only [Shp.D, Shp.Ds, Shp.dflt, Shp.dflts] at *)); simp only [setAt, List.length_set]; omega))
 all_goals first
  | (with_reducible show Goes _ _ _ _
     (((with_reducible refine hR1 _ ?_ (fun zq bq tq yq hUq => ?_)); (focus (refine EndOk.mk (by cbv) (by cbv) (by cbv; repeat' (first | exact True.intro | exact rfl | with_reducible refine And.intro ?_ ?_)) (by cbv; repeat' (first | exact True.intro | exact rfl | with_reducible refine And.intro ?_ ?_)) (by cbv; repeat' (first | exact True.intro | exact rfl | with_reducible refine And.intro ?_ ?_)))); (have q38 := hUq.z 38); (cbv at q38); (replace q38 := q38.eq); (simp only [atI, vem, veq, ne_eq, cmpI, arI, dvI, shI, SV.den] at q38); (have qy1576 := hUq.y 1576 (.byte)); (cbv at qy1576); (replace qy1576 := qy1576.eq); (simp only [atY, convL_self, vem, veq, ne_eq, cmpI, arI, dvI, shI, SV.den] at qy1576); (clear hUq hR1); (try dsimp only [Shp.D, Shp.Ds, Shp.dflt] at *); (try simp only [vem, veq, ne_eq, cmpI, arI, dvI, shI, SV.den, elemAt, convL_self] at *); (try dsimp only [Shp.D, Shp.Ds, Shp.dflt, Shp.dflts] at *))); (try ((try dsimp only [Shp.D, Shp.Ds, Shp.dflt] at *); simp only [vem, veq, ne_eq, cmpI, arI, dvI, shI, SV.den, obLt, elemAt, obApp, partL, obPart, lowD, highD, mxOk, convL_self, zerosB, List.length_replicate, vln] at *; (try dsimp only [Shp.D, Shp.Ds, Shp.dflt, Shp.dflts] at *)))
     exact ⟨⟨by omega, by omega, by rw [← qy1576]; simp only [setAt, List.length_set]; omega⟩, by omega⟩)
  | skip
 rotate_left 1
 with_reducible refine loop_hv [] (13 :: rangeN 56 5) [] [1576] (fun z b t y => 0 ≤ z 55 ∧ z 55 ≤ 32 ∧ (y 1576 .byte).length = 32) (fun z b t y => (32 - z 55).toNat) (by cbv) (by cbv) ?_ ?_ (fun z2 b2 t2 u2 y2 R2 hP2 hR2 => ?_)
 ·refine EndOk.mk (by cbv) (by cbv) (by cbv; repeat' (first | exact True.intro | exact rfl | with_reducible refine And.intro ?_ ?_)) (by cbv; repeat' (first | exact True.intro | exact rfl | with_reducible refine And.intro ?_ ?_)) (by cbv; repeat' (first | exact True.intro | exact rfl | with_reducible refine And.intro ?_ ?_))
 ·intro zq bq tq yq hUq
  have q55 := hUq.z 55
  cbv at q55
  replace q55 := q55.eq
  simp only [atI, vem, veq, ne_eq, cmpI, arI, dvI, shI, SV.den] at q55
  have qy1576 := hUq.y 1576 (.byte)
  cbv at qy1576
  replace qy1576 := qy1576.eq
  simp only [atY, convL_self, vem, veq, ne_eq, cmpI, arI, dvI, shI, SV.den] at qy1576
  clear hUq
  try dsimp only [Shp.D, Shp.Ds, Shp.dflt] at *
  try simp only [vem, veq, ne_eq, cmpI, arI, dvI, shI, SV.den, convL_self] at *
  rw [← q55, ← qy1576]
  exact ⟨by omega, by omega, by have := hx.1; omega⟩
 obtain ⟨p1, p2, p3⟩ := hP2
 cbv
 (repeat' (first | ((with_reducible apply And.intro <;> intro h) <;> (first | with_reducible exact (tf h (by assumption)).elim | with_reducible exact (tf (by assumption) h).elim | cbv)) | ((with_reducible show JoinT (fun s K => vc _ (Code.region _ _ true) s K) _ _ _ _ _ _); (with_reducible apply JoinT.mg2); (focus (cbv; (repeat' (first | ((with_reducible apply And.intro <;> intro h) <;> (first | with_reducible exact (tf h (by assumption)).elim | with_reducible exact (tf (by assumption) h).elim | cbv)) | ((with_reducible first | refine Cb.mk ?_ | refine Lz.mk ?_ | refine JoinT.left ?_ | (apply AllT.mk; intro x hx)); cbv) | ((with_reducible refine Ob.mk (fun _ => ?_) ?_); rotate_left 1) | (with_reducible first | refine Mg.mk (Exists.intro ?_ (And.intro ?_ ?_)) | rfl | refine Fin.mk ?_ | exact True.intro | refine And.intro ?_ ?_))); (all_goals (try (have du : Unit := (); have dv : Unit := (); first | exact Goes.self (Ex2.mk ⟨dv, du, trivial, trivial, rfl⟩) | exact Goes.self (Ex2.mk ⟨x, du, hx, trivial, rfl⟩) | (rename_i xa hxa; exact Goes.self (Ex2.mk ⟨xa, x, hxa, hx, rfl⟩))))); (all_goals (fail_if_success (with_reducible first | show Goes _ _ _ _ | show (∃ _, unr _ _ _ _ _ _))))))) | ((with_reducible first | refine Cb.mk ?_ | refine Lz.mk ?_ | refine JoinT.left ?_ | (apply AllT.mk; intro x hx)); cbv) | ((with_reducible refine Ob.mk (fun _ => ?_) ?_); rotate_left 1) | (with_reducible first | refine Mg.mk (Exists.intro ?_ (And.intro ?_ ?_)) | rfl | refine Fin.mk ?_ | exact True.intro | refine And.intro ?_ ?_)))
 all_goals first | (with_reducible show (∃ _, unr _ _ _ _ _ _); skip) | (with_reducible show UnrI _ _ _ _ _; skip) | (with_reducible show Goes _ _ _ _; skip) | (with_reducible show JoinT _ _ _ _ _ _ _; skip) | (first | ((try dsimp only [Shp.D, Shp.Ds, Shp.dflt] at *); simp only [vem, veq, ne_eq, cmpI, arI, dvI, shI, SV.den, obLt, elemAt, obApp, partL, obPart, lowD, highD, mxOk, convL_self, zerosB, List.length_replicate, vln] at *; (try dsimp only [Shp.D, Shp.Ds, Shp.dflt, Shp.dflts] at *); done) | ((try dsimp only [Shp.D, Shp.Ds, Shp.dflt] at *); simp only [vem, veq, ne_eq, cmpI, arI, dvI, shI, SV.den, obLt, elemAt, obApp, partL, obPart, lowD, highD, mxOk, convL_self, zerosB, List.length_replicate, vln] at *; (try dsimp only [Shp.D, Shp.Ds, Shp.dflt, Shp.dflts] at *); omega) | (((try dsimp only [Shp.D, Shp.Ds, Shp.dflt] at *); simp only [vem, veq, ne_eq, cmpI, arI, dvI, shI, SV.den, obLt, elemAt, obApp, partL, obPart, lowD, highD, mxOk, convL_self, zerosB, List.length_replicate, vln] at *; (try dsimp only [Shp.D, Shp.Ds, Shp.dflt, Shp.dflts] at *)); exact (hw2 _).1) | (((try dsimp only [Shp.D, Shp.Ds, Shp.dflt] at *); simp only [vem, veq, ne_eq, cmpI, arI, dvI, shI, SV.den, obLt, elemAt, obApp, partL, obPart, lowD, highD, mxOk, convL_self, zerosB, List.length_replicate, vln] at *; (try dsimp only [Shp.D, Shp.Ds, Shp.dflt, Shp.dflts] at *)); exact (hw2 _).2) | (((try dsimp only [Shp.D, Shp.Ds, Shp.dflt] at *); simp only [vem, veq, ne_eq, cmpI, arI, dvI, shI, SV.den, obLt, elemAt, obApp, partL, obPart, lowD, highD, mxOk, convL_self, zerosB, List.length_replicate, vln] at *; (try dsimp only [Shp.D, Shp.Ds, Shp.dflt, Shp.dflts] at *)); simp only [setAt, List.length_set]; omega))
 all_goals first
  | (with_reducible show Goes _ _ _ _
     (((with_reducible refine hR2 _ ?_ (fun zq bq tq yq hUq => ?_)); (focus (refine EndOk.mk (by cbv) (by cbv) (by cbv; repeat' (first | exact True.intro | exact rfl | with_reducible refine And.intro ?_ ?_)) (by cbv; repeat' (first | exact True.intro | exact rfl | with_reducible refine And.intro ?_ ?_)) (by cbv; repeat' (first | exact True.intro | exact rfl | with_reducible refine And.intro ?_ ?_)))); (have q55 := hUq.z 55); (cbv at q55); (replace q55 := q55.eq); (simp only [atI, vem, veq, ne_eq, cmpI, arI, dvI, shI, SV.den] at q55); (have qy1576 := hUq.y 1576 (.byte)); (cbv at qy1576); (replace qy1576 := qy1576.eq); (simp only [atY, convL_self, vem, veq, ne_eq, cmpI, arI, dvI, shI, SV.den] at qy1576); (clear hUq hR2); (try dsimp only [Shp.D, Shp.Ds, Shp.dflt] at *); (try simp only [vem, veq, ne_eq, cmpI, arI, dvI, shI, SV.den, elemAt, convL_self] at *); (try dsimp only [Shp.D, Shp.Ds, Shp.dflt, Shp.dflts] at *))); (try ((try dsimp only [Shp.D, Shp.Ds, Shp.dflt] at *); simp only [vem, veq, ne_eq, cmpI, arI, dvI, shI, SV.den, obLt, elemAt, obApp, partL, obPart, lowD, highD, mxOk, convL_self, zerosB, List.length_replicate, vln] at *; (try dsimp only [Shp.D, Shp.Ds, Shp.dflt, Shp.dflts] at *)))
     exact ⟨⟨by omega, by omega, by rw [← qy1576]; simp only [setAt, List.length_set]; omega⟩, by omega⟩)
  | skip
 rotate_left 1
 all_goals
  refine ⟨4, ?_⟩
  cbv
  (repeat' (first | ((with_reducible apply And.intro <;> intro h) <;> (first | with_reducible exact (tf h (by assumption)).elim | with_reducible exact (tf (by assumption) h).elim | cbv)) | ((with_reducible show JoinT (fun s K => vc _ (Code.region _ _ true) s K) _ _ _ _ _ _); (with_reducible apply JoinT.mg2); (focus (cbv; (repeat' (first | ((with_reducible apply And.intro <;> intro h) <;> (first | with_reducible exact (tf h (by assumption)).elim | with_reducible exact (tf (by assumption) h).elim | cbv)) | ((with_reducible first | refine Cb.mk ?_ | refine Lz.mk ?_ | refine JoinT.left ?_ | (apply AllT.mk; intro x hx)); cbv) | ((with_reducible refine Ob.mk (fun _ => ?_) ?_); rotate_left 1) | (with_reducible first | refine Mg.mk (Exists.intro ?_ (And.intro ?_ ?_)) | rfl | refine Fin.mk ?_ | exact True.intro | refine And.intro ?_ ?_))); (all_goals (try (have du : Unit := (); have dv : Unit := (); first | exact Goes.self (Ex2.mk ⟨dv, du, trivial, trivial, rfl⟩) | exact Goes.self (Ex2.mk ⟨x, du, hx, trivial, rfl⟩) | (rename_i xa hxa; exact Goes.self (Ex2.mk ⟨xa, x, hxa, hx, rfl⟩))))); (all_goals (fail_if_success (with_reducible first | show Goes _ _ _ _ | show (∃ _, unr _ _ _ _ _ _))))))) | ((with_reducible first | refine Cb.mk ?_ | refine Lz.mk ?_ | refine JoinT.left ?_ | (apply AllT.mk; intro x hx)); cbv) | ((with_reducible refine Ob.mk (fun _ => ?_) ?_); rotate_left 1) | (with_reducible first | refine Mg.mk (Exists.intro ?_ (And.intro ?_ ?_)) | rfl | refine Fin.mk ?_ | exact True.intro | refine And.intro ?_ ?_)))
  all_goals first | (with_reducible show (∃ _, unr _ _ _ _ _ _); skip) | (with_reducible show UnrI _ _ _ _ _; skip) | (with_reducible show Goes _ _ _ _; skip) | (with_reducible show JoinT _ _ _ _ _ _ _; skip) | (first | ((try dsimp only [Shp.D, Shp.Ds, Shp.dflt] at *); simp only [vem, veq, ne_eq, cmpI, arI, dvI, shI, SV.den, obLt, elemAt, obApp, partL, obPart, lowD, highD, mxOk, convL_self, zerosB, List.length_replicate, vln] at *; (try dsimp only [Shp.D, Shp.Ds, Shp.dflt, Shp.dflts] at *); done) | ((try dsimp only [Shp.D, Shp.Ds, Shp.dflt] at *); simp only [vem, veq, ne_eq, cmpI, arI, dvI, shI, SV.den, obLt, elemAt, obApp, partL, obPart, lowD, highD, mxOk, convL_self, zerosB, List.length_replicate, vln] at *; (try dsimp only [Shp.D, Shp.Ds, Shp.dflt, Shp.dflts] at *); omega) | (try ((try dsimp only [Shp.D, Shp.Ds, Shp.dflt] at *); simp only [vem, veq, ne_eq, cmpI, arI, dvI, shI, SV.den, obLt, elemAt, obApp, partL, obPart, lowD, highD, mxOk, convL_self, zerosB, List.length_replicate, vln] at *; (try dsimp only [Shp.D, Shp.Ds, Shp.dflt, Shp.dflts] at *))))
  all_goals first
   | exact (two_ne (by assumption) (by assumption) (by assumption)).elim
   | exact (two_n (by assumption) (by assumption) (by assumption) (by assumption)).elim
   | exact (two_f (by assumption) (by assumption) (by assumption) (by assumption)).elim
   | exact two_t (by assumption) (by assumption) (by assumption)
theorem law_CurveMultiplies (x : Shp.Ds mulAs) (w : World) (vals : List Value) (hr : ArgsRep w mulAs x vals) (hi : inrs mulAs x) : Calls Try.prog 3 vals.toArray w fun e w' => e = .returned (.bool true) ∧ Below w.heap.size w w' :=
 law_of_vc Try.func3 (by kernel_rfl) mulC_cx hr (mul_vc x hi)
end Go.Proofs.Ytihnagafldpbnaa.V
