/- Contracts: the document's Parse; lists of proposals are compared; the example. -/
import Derived.Test.YtkeefgiajogkkaaVPc
import Derived.Test.YtkeefgiajogkkaaVPm
import Derived.Test.YtkeefgiajogkkaaVPt
import Derived.Test.YtkeefgiajogkkaaVPw
import Derived.Test.YtkeefgiajogkkaaVC
set_option linter.unusedVariables false
set_option linter.unusedSimpArgs false
namespace Go.Proofs.Ytkeefgiajogkkaa.V
open Go.RowKit
set_option maxHeartbeats 8000000
set_option maxRecDepth 100000
theorem rpa_b {d : List UInt8} {x : List PrT} {ok : Bool} (h0 : ¬ (d.length : Int) = 0) (h : (if ok = true then some x else none) = prsQ d) (ho : (!ok) = true) : parP d = ([], 4) := by
 have : ok = false := by simpa using ho
 subst this
 unfold parP
 rw [if_neg (by omega), prs_q _ d (Nat.le_refl _) (by omega), ← h]
 rfl
theorem rpa_g {d : List UInt8} {x : List PrT} {ok : Bool} (h0 : ¬ (d.length : Int) = 0) (h : (if ok = true then some x else none) = prsQ d) (ho : (!ok) = false) : parP d = if chkF x = 0 then (x, 0) else ([], chkF x) := by
 have : ok = true := by simpa using ho
 subst this
 unfold parP
 rw [if_neg (by omega), prs_q _ d (Nat.le_refl _) (by omega), ← h]
 rfl
abbrev rpaSp : Spec := fnSpec [.sl .byte] [.sl prE, .int .i64] [40] (fun x => x.1.length ≤ 1073741824) fun x y => (y.1, y.2.1) = parP x.1
def rpaC_t : SpecT := nd0 27 (lf0 20 (chkS)) (lf0 27 (rreSp))
def rpaC : Cx := ⟨tt, qt, bt, st, rpaC_t, 0, 1000000000000000, fun _ => none, false, CxE.no, []⟩
theorem rpaC_si {E : Env} (h : E.ok) : SpecsOk Try.prog E (CxE.no) rpaC_t (fun _ => none) := ⟨(nd0_ok (lf0_ok (.inl (roc_sp h))) (lf0_ok (.inl (rre_sp h)))), noI_ok _ _ _⟩
theorem rpaC_x {E : Env} (h : E.ok) : CxEOk Try.prog E (CxE.no) := CxE.no_ok _ _
theorem rpaC_cx (E : Env) (h : E.ok) (h1 : E.lo = 0) (h2 : E.hi = 1000000000000000) : Cx.ok rpaC Try.prog E := ⟨tt_ok, qt_ok, bt_ok, rpaC_si h, h, h1, h2, mixed_ok, rpaC_x h⟩
theorem rpaC_from (lo hi : Nat) (E : Env) (h : E.ok) (h1 : E.lo = lo) (h2 : E.hi = hi) : Cx.ok (Cx.from rpaC lo hi) Try.prog E := ⟨tt_ok, qt_ok, bt_ok, rpaC_si h, h, h1, h2, mixed_ok, rpaC_x h⟩
theorem rpa_fn : hasFn Try.prog 14 := ⟨_, Try.func14, by rfl, by rfl⟩
theorem rpa_sp {E : Env} (hE : E.ok) : SpecOk Try.prog E 14 rpaSp := by
 refine spec_of_vc (C := rpaC) rpa_fn Try.func14 (by kernel_rfl) rpaC_cx (fun x hl hx => ?_) hE
 obtain ⟨d, ⟨⟩⟩ := x
 cbv
 (repeat' (first | ((with_reducible apply And.intro <;> intro h) <;> (first | with_reducible exact (tf h (by assumption)).elim | with_reducible exact (tf (by assumption) h).elim | cbv)) | ((with_reducible show JoinT (fun s K => vc _ (Code.region _ _ true) s K) _ _ _ _ _ _); (with_reducible apply JoinT.mg2); (focus (cbv; (repeat' (first | ((with_reducible apply And.intro <;> intro h) <;> (first | with_reducible exact (tf h (by assumption)).elim | with_reducible exact (tf (by assumption) h).elim | cbv)) | ((with_reducible first | refine Cb.mk ?_ | refine Lz.mk ?_ | refine JoinT.left ?_ | (apply AllT.mk; intro x hx)); cbv) | ((with_reducible refine Ob.mk (fun _ => ?_) ?_); rotate_left 1) | (with_reducible first | refine Mg.mk (Exists.intro ?_ (And.intro ?_ ?_)) | rfl | refine Fin.mk ?_ | exact True.intro | refine And.intro ?_ ?_))); (all_goals (try (have du : Unit := (); have dv : Unit := (); first | exact Goes.self (Ex2.mk ⟨dv, du, trivial, trivial, rfl⟩) | exact Goes.self (Ex2.mk ⟨x, du, hx, trivial, rfl⟩) | (rename_i xa hxa; exact Goes.self (Ex2.mk ⟨xa, x, hxa, hx, rfl⟩))))); (all_goals (fail_if_success (with_reducible first | show Goes _ _ _ _ | show (∃ _, unr _ _ _ _ _ _))))))) | ((with_reducible first | refine Cb.mk ?_ | refine Lz.mk ?_ | refine JoinT.left ?_ | (apply AllT.mk; intro x hx)); cbv) | ((with_reducible refine Ob.mk (fun _ => ?_) ?_); rotate_left 1) | (with_reducible first | refine Mg.mk (Exists.intro ?_ (And.intro ?_ ?_)) | rfl | refine Fin.mk ?_ | exact True.intro | refine And.intro ?_ ?_)))
 all_goals first | (with_reducible show (∃ _, unr _ _ _ _ _ _); skip) | (with_reducible show UnrI _ _ _ _ _; skip) | (with_reducible show Goes _ _ _ _; skip) | (with_reducible show JoinT _ _ _ _ _ _ _; skip) | (first | ((try dsimp only [Shp.D, Shp.Ds, Shp.dflt] at *); simp only [vem, veq, ne_eq, cmpI, arI, dvI, shI, SV.den, obLt, elemAt, obApp, partL, obPart, lowD, highD, mxOk, convL_self, zerosB, List.length_replicate, vln] at *; (try dsimp only [Shp.D, Shp.Ds, Shp.dflt, Shp.dflts] at *); done) | ((try dsimp only [Shp.D, Shp.Ds, Shp.dflt] at *); simp only [vem, veq, ne_eq, cmpI, arI, dvI, shI, SV.den, obLt, elemAt, obApp, partL, obPart, lowD, highD, mxOk, convL_self, zerosB, List.length_replicate, vln] at *; (try dsimp only [Shp.D, Shp.Ds, Shp.dflt, Shp.dflts] at *); omega) | (try ((try dsimp only [Shp.D, Shp.Ds, Shp.dflt] at *); simp only [vem, veq, ne_eq, cmpI, arI, dvI, shI, SV.den, obLt, elemAt, obApp, partL, obPart, lowD, highD, mxOk, convL_self, zerosB, List.length_replicate, vln] at *; (try dsimp only [Shp.D, Shp.Ds, Shp.dflt, Shp.dflts] at *))))
 all_goals first
  | (unfold parP; rw [if_pos (by omega)]; done)
  | (rw [rpa_b (by assumption) (‹ite _ _ _ = prsQ d ∧ _›).1 (by assumption)]; done)
  | (rw [rpa_g (by assumption) (‹ite _ _ _ = prsQ d ∧ _›).1 (by assumption), if_pos (by assumption)]; done)
  | (rw [rpa_g (by assumption) (‹ite _ _ _ = prsQ d ∧ _›).1 (by assumption), if_neg (by assumption)]; done)
abbrev samSp : Spec := fnSpec [.sl prE, .sl prE] [.bool] [] (fun _ => True) fun x y => x.1 = x.2.1 → y.1 = true
abbrev eqlS : Spec := fnSpec [.sl .byte, .sl .byte] [.bool] [] (fun _ => True) fun x y => y.1 = decide (x.1 = x.2.1)
def samC_t : SpecT := lf0 18 (eqlS)
def samC : Cx := ⟨tt, qt, bt, st, samC_t, 0, 1000000000000000, fun _ => none, false, CxE.no, []⟩
theorem samC_si {E : Env} (h : E.ok) : SpecsOk Try.prog E (CxE.no) samC_t (fun _ => none) := ⟨(lf0_ok (.inl (reql_sp h))), noI_ok _ _ _⟩
theorem samC_x {E : Env} (h : E.ok) : CxEOk Try.prog E (CxE.no) := CxE.no_ok _ _
theorem samC_cx (E : Env) (h : E.ok) (h1 : E.lo = 0) (h2 : E.hi = 1000000000000000) : Cx.ok samC Try.prog E := ⟨tt_ok, qt_ok, bt_ok, samC_si h, h, h1, h2, mixed_ok, samC_x h⟩
theorem samC_from (lo hi : Nat) (E : Env) (h : E.ok) (h1 : E.lo = lo) (h2 : E.hi = hi) : Cx.ok (Cx.from samC lo hi) Try.prog E := ⟨tt_ok, qt_ok, bt_ok, samC_si h, h, h1, h2, mixed_ok, samC_x h⟩
theorem sam_fn : hasFn Try.prog 15 := ⟨_, Try.func15, by rfl, by rfl⟩
theorem ts_lim {l : List PrT} (h : Shp.lim (.sl prE) l) (k : Nat) : (l.getD k (0, 0, [], [], ())).2.2.2.1.length ≤ 140737488355328 := by
 simp only [Shp.lim, Shp.lims] at h
 rw [List.getD_eq_getElem?_getD]
 by_cases hk : k < l.length
 ·rw [List.getElem?_eq_getElem hk]
  exact (h.2 _ (List.getElem_mem hk)).2.2.2.1.1
 ·rw [List.getElem?_eq_none (by omega)]
  exact Nat.zero_le _
theorem go_i {n : Nat} {k kq : Int} (h0 : 0 ≤ k) (h : k < (n : Int)) (hn : n ≤ 140737488355328) (q : (k + 1 + 9223372036854775808) % 18446744073709551616 - 9223372036854775808 = kq) : (0 ≤ kq ∧ kq ≤ (n : Int)) ∧ ((n : Int) - kq).toNat < ((n : Int) - k).toNat := ⟨⟨by omega, by omega⟩, by omega⟩
theorem ts_at {l m : List PrT} {k : Nat} {z : Int} (h0 : l = m) (h : ¬ (((l.getD k (0, 0, [], [], ())).2.2.2.1.getD z.toNat (0, 0, 0, ())).1 = ((m.getD k (0, 0, [], [], ())).2.2.2.1.getD z.toNat (0, 0, 0, ())).1 ∧ ((l.getD k (0, 0, [], [], ())).2.2.2.1.getD z.toNat (0, 0, 0, ())).2.1 = ((m.getD k (0, 0, [], [], ())).2.2.2.1.getD z.toNat (0, 0, 0, ())).2.1 ∧ ((l.getD k (0, 0, [], [], ())).2.2.2.1.getD z.toNat (0, 0, 0, ())).2.2.1 = ((m.getD k (0, 0, [], [], ())).2.2.2.1.getD z.toNat (0, 0, 0, ())).2.2.1)) : False := by
 subst h0
 exact h ⟨rfl, rfl, rfl⟩
theorem sam_sp {E : Env} (hE : E.ok) : SpecOk Try.prog E 15 samSp := by
 refine spec_of_vc (C := samC) sam_fn Try.func15 (by kernel_rfl) samC_cx (fun x hl hx => ?_) hE
 obtain ⟨l, m, u⟩ := x
 have ha : l.length ≤ 140737488355328 := by simp only [Shp.lims, Shp.lim] at hl; exact hl.1.1
 have hts := fun k => ts_lim (l := l) hl.1 k
 clear hl
 cbv
 (repeat' (first | ((with_reducible apply And.intro <;> intro h) <;> (first | with_reducible exact (tf h (by assumption)).elim | with_reducible exact (tf (by assumption) h).elim | cbv)) | ((with_reducible show JoinT (fun s K => vc _ (Code.region _ _ true) s K) _ _ _ _ _ _); (with_reducible apply JoinT.mg2); (focus (cbv; (repeat' (first | ((with_reducible apply And.intro <;> intro h) <;> (first | with_reducible exact (tf h (by assumption)).elim | with_reducible exact (tf (by assumption) h).elim | cbv)) | ((with_reducible first | refine Cb.mk ?_ | refine Lz.mk ?_ | refine JoinT.left ?_ | (apply AllT.mk; intro x hx)); cbv) | ((with_reducible refine Ob.mk (fun _ => ?_) ?_); rotate_left 1) | (with_reducible first | refine Mg.mk (Exists.intro ?_ (And.intro ?_ ?_)) | rfl | refine Fin.mk ?_ | exact True.intro | refine And.intro ?_ ?_))); (all_goals (try (have du : Unit := (); have dv : Unit := (); first | exact Goes.self (Ex2.mk ⟨dv, du, trivial, trivial, rfl⟩) | exact Goes.self (Ex2.mk ⟨x, du, hx, trivial, rfl⟩) | (rename_i xa hxa; exact Goes.self (Ex2.mk ⟨xa, x, hxa, hx, rfl⟩))))); (all_goals (fail_if_success (with_reducible first | show Goes _ _ _ _ | show (∃ _, unr _ _ _ _ _ _))))))) | ((with_reducible first | refine Cb.mk ?_ | refine Lz.mk ?_ | refine JoinT.left ?_ | (apply AllT.mk; intro x hx)); cbv) | ((with_reducible refine Ob.mk (fun _ => ?_) ?_); rotate_left 1) | (with_reducible first | refine Mg.mk (Exists.intro ?_ (And.intro ?_ ?_)) | rfl | refine Fin.mk ?_ | exact True.intro | refine And.intro ?_ ?_)))
 all_goals first | (with_reducible show (∃ _, unr _ _ _ _ _ _); skip) | (with_reducible show UnrI _ _ _ _ _; skip) | (with_reducible show Goes _ _ _ _; skip) | (with_reducible show JoinT _ _ _ _ _ _ _; skip) | (first | ((((try dsimp only [Shp.D, Shp.Ds, Shp.dflt] at *); simp only [vem, veq, ne_eq, cmpI, arI, dvI, shI, SV.den, obLt, elemAt, obApp, partL, obPart, lowD, highD, mxOk, convL_self, zerosB, List.length_replicate, vln] at *; (try dsimp only [Shp.D, Shp.Ds, Shp.dflt, Shp.dflts] at *)) <;> (try simp only [Shp.lims, Shp.lim, IntKind.wrap_u64, IntKind.wrap_u8] at *) <;> omega); done) | ((try dsimp only [Shp.D, Shp.Ds, Shp.dflt] at *); simp only [vem, veq, ne_eq, cmpI, arI, dvI, shI, SV.den, obLt, elemAt, obApp, partL, obPart, lowD, highD, mxOk, convL_self, zerosB, List.length_replicate, vln] at *; (try dsimp only [Shp.D, Shp.Ds, Shp.dflt, Shp.dflts] at *); intro h0; subst h0; exact absurd rfl h))
 with_reducible refine loop_hv [] (6 :: rangeN 12 86) [] [] (fun z b t y => 0 ≤ z 5 ∧ z 5 ≤ (l.length : Int)) (fun z b t y => ((l.length : Int) - z 5).toNat) (by cbv) (by cbv) ?_ ?_ (fun z1 b1 t1 u1 y1 R1 hP1 hR1 => ?_)
 ·exact EndOk.au
 ·intro zq bq tq yq hUq
  have q5 := hUq.z 5
  cbv at q5
  replace q5 := q5.eq
  simp only [atI, atB, atT, atY, convL_self, vem, veq, ne_eq, cmpI, arI, dvI, shI, SV.den] at q5
  clear hUq
  try dsimp only [Shp.D, Shp.Ds, Shp.dflt] at *
  try simp only [vem, veq, ne_eq, cmpI, arI, dvI, shI, SV.den, convL_self] at *
  rw [← q5]
  exact ⟨by omega, by omega⟩
 obtain ⟨p1, p2⟩ := hP1
 cbv
 (repeat' (first | ((with_reducible apply And.intro <;> intro h) <;> (first | with_reducible exact (tf h (by assumption)).elim | with_reducible exact (tf (by assumption) h).elim | cbv)) | ((with_reducible show JoinT (fun s K => vc _ (Code.region _ _ true) s K) _ _ _ _ _ _); (with_reducible apply JoinT.mg2); (focus (cbv; (repeat' (first | ((with_reducible apply And.intro <;> intro h) <;> (first | with_reducible exact (tf h (by assumption)).elim | with_reducible exact (tf (by assumption) h).elim | cbv)) | ((with_reducible first | refine Cb.mk ?_ | refine Lz.mk ?_ | refine JoinT.left ?_ | (apply AllT.mk; intro x hx)); cbv) | ((with_reducible refine Ob.mk (fun _ => ?_) ?_); rotate_left 1) | (with_reducible first | refine Mg.mk (Exists.intro ?_ (And.intro ?_ ?_)) | rfl | refine Fin.mk ?_ | exact True.intro | refine And.intro ?_ ?_))); (all_goals (try (have du : Unit := (); have dv : Unit := (); first | exact Goes.self (Ex2.mk ⟨dv, du, trivial, trivial, rfl⟩) | exact Goes.self (Ex2.mk ⟨x, du, hx, trivial, rfl⟩) | (rename_i xa hxa; exact Goes.self (Ex2.mk ⟨xa, x, hxa, hx, rfl⟩))))); (all_goals (fail_if_success (with_reducible first | show Goes _ _ _ _ | show (∃ _, unr _ _ _ _ _ _))))))) | ((with_reducible first | refine Cb.mk ?_ | refine Lz.mk ?_ | refine JoinT.left ?_ | (apply AllT.mk; intro x hx)); cbv) | ((with_reducible refine Ob.mk (fun _ => ?_) ?_); rotate_left 1) | (with_reducible first | refine Mg.mk (Exists.intro ?_ (And.intro ?_ ?_)) | rfl | refine Fin.mk ?_ | exact True.intro | refine And.intro ?_ ?_)))
 all_goals first | (with_reducible show (∃ _, unr _ _ _ _ _ _); skip) | (with_reducible show UnrI _ _ _ _ _; skip) | (with_reducible show Goes _ _ _ _; skip) | (with_reducible show JoinT _ _ _ _ _ _ _; skip) | (first | ((try dsimp only [Shp.D, Shp.Ds, Shp.dflt] at *); simp only [vem, veq, ne_eq, cmpI, arI, dvI, shI, SV.den, obLt, elemAt, obApp, partL, obPart, lowD, highD, mxOk, convL_self, zerosB, List.length_replicate, vln] at *; (try dsimp only [Shp.D, Shp.Ds, Shp.dflt, Shp.dflts] at *); done) | ((try dsimp only [Shp.D, Shp.Ds, Shp.dflt] at *); simp only [vem, veq, ne_eq, cmpI, arI, dvI, shI, SV.den, obLt, elemAt, obApp, partL, obPart, lowD, highD, mxOk, convL_self, zerosB, List.length_replicate, vln] at *; (try dsimp only [Shp.D, Shp.Ds, Shp.dflt, Shp.dflts] at *); omega) | ((try dsimp only [Shp.D, Shp.Ds, Shp.dflt] at *); simp only [vem, veq, ne_eq, cmpI, arI, dvI, shI, SV.den, obLt, elemAt, obApp, partL, obPart, lowD, highD, mxOk, convL_self, zerosB, List.length_replicate, vln] at *; (try dsimp only [Shp.D, Shp.Ds, Shp.dflt, Shp.dflts] at *); intro h0; subst h0; simp_all; done) | (try ((try dsimp only [Shp.D, Shp.Ds, Shp.dflt] at *); simp only [vem, veq, ne_eq, cmpI, arI, dvI, shI, SV.den, obLt, elemAt, obApp, partL, obPart, lowD, highD, mxOk, convL_self, zerosB, List.length_replicate, vln] at *; (try dsimp only [Shp.D, Shp.Ds, Shp.dflt, Shp.dflts] at *))))
 all_goals first
  | (with_reducible show (∃ _, unr _ _ _ _ _ _); skip)
  | (((with_reducible refine hR1 _ ?_ (fun zq bq tq yq hUq => ?_)); (focus (exact EndOk.au)); (have q5 := hUq.z 5); (cbv at q5); (replace q5 := q5.eq); (simp only [atI, atB, atT, atY, convL_self, vem, veq, ne_eq, cmpI, arI, dvI, shI, SV.den] at q5); (clear hUq hR1); (try dsimp only [Shp.D, Shp.Ds, Shp.dflt] at *); (try simp only [vem, veq, ne_eq, cmpI, arI, dvI, shI, SV.den, elemAt, convL_self] at *); (try dsimp only [Shp.D, Shp.Ds, Shp.dflt, Shp.dflts] at *)); (try ((try dsimp only [Shp.D, Shp.Ds, Shp.dflt] at *); simp only [vem, veq, ne_eq, cmpI, arI, dvI, shI, SV.den, obLt, elemAt, obApp, partL, obPart, lowD, highD, mxOk, convL_self, zerosB, List.length_replicate, vln] at *; (try dsimp only [Shp.D, Shp.Ds, Shp.dflt, Shp.dflts] at *))); exact ⟨⟨by omega, by omega⟩, by omega⟩)
  | (trace_state; skip)
 have ht := hts (z1 5).toNat
 with_reducible refine loop_hv [] (rangeN 71 27) [] [] (fun z b t y => 0 ≤ z 6 ∧ z 6 ≤ ((l.getD (z1 5).toNat (0, 0, [], [], ())).2.2.2.1.length : Int)) (fun z b t y => ((((l.getD (z1 5).toNat (0, 0, [], [], ())).2.2.2.1.length : Nat) : Int) - z 6).toNat) (by cbv) (by cbv) ?_ ?_ (fun z2 b2 t2 u2 y2 R2 hP2 hR2 => ?_)
 ·exact EndOk.au
 ·intro zq bq tq yq hUq
  have q6 := hUq.z 6
  cbv at q6
  replace q6 := q6.eq
  simp only [atI, atB, atT, atY, convL_self, vem, veq, ne_eq, cmpI, arI, dvI, shI, SV.den] at q6
  clear hUq
  try dsimp only [Shp.D, Shp.Ds, Shp.dflt] at *
  try simp only [vem, veq, ne_eq, cmpI, arI, dvI, shI, SV.den, convL_self] at *
  rw [← q6]
  exact ⟨by omega, by omega⟩
 obtain ⟨r1, r2⟩ := hP2
 have hk : (l.getD (z1 5).toNat (0, 0, [], [], ())).2.2.2.1.length = (m.getD (z1 5).toNat (0, 0, [], [], ())).2.2.2.1.length := by ((try dsimp only [Shp.D, Shp.Ds, Shp.dflt] at *); simp only [vem, veq, ne_eq, cmpI, arI, dvI, shI, SV.den, obLt, elemAt, obApp, partL, obPart, lowD, highD, mxOk, convL_self, zerosB, List.length_replicate, vln] at *; (try dsimp only [Shp.D, Shp.Ds, Shp.dflt, Shp.dflts] at *); exact Int.ofNat.inj h)
 cbv
 (repeat' (first | ((with_reducible apply And.intro <;> intro h) <;> (first | with_reducible exact (tf h (by assumption)).elim | with_reducible exact (tf (by assumption) h).elim | cbv)) | ((with_reducible show JoinT (fun s K => vc _ (Code.region _ _ true) s K) _ _ _ _ _ _); (with_reducible apply JoinT.mg2); (focus (cbv; (repeat' (first | ((with_reducible apply And.intro <;> intro h) <;> (first | with_reducible exact (tf h (by assumption)).elim | with_reducible exact (tf (by assumption) h).elim | cbv)) | ((with_reducible first | refine Cb.mk ?_ | refine Lz.mk ?_ | refine JoinT.left ?_ | (apply AllT.mk; intro x hx)); cbv) | ((with_reducible refine Ob.mk (fun _ => ?_) ?_); rotate_left 1) | (with_reducible first | refine Mg.mk (Exists.intro ?_ (And.intro ?_ ?_)) | rfl | refine Fin.mk ?_ | exact True.intro | refine And.intro ?_ ?_))); (all_goals (try (have du : Unit := (); have dv : Unit := (); first | exact Goes.self (Ex2.mk ⟨dv, du, trivial, trivial, rfl⟩) | exact Goes.self (Ex2.mk ⟨x, du, hx, trivial, rfl⟩) | (rename_i xa hxa; exact Goes.self (Ex2.mk ⟨xa, x, hxa, hx, rfl⟩))))); (all_goals (fail_if_success (with_reducible first | show Goes _ _ _ _ | show (∃ _, unr _ _ _ _ _ _))))))) | ((with_reducible first | refine Cb.mk ?_ | refine Lz.mk ?_ | refine JoinT.left ?_ | (apply AllT.mk; intro x hx)); cbv) | ((with_reducible refine Ob.mk (fun _ => ?_) ?_); rotate_left 1) | (with_reducible first | refine Mg.mk (Exists.intro ?_ (And.intro ?_ ?_)) | rfl | refine Fin.mk ?_ | exact True.intro | refine And.intro ?_ ?_)))
 all_goals first | (with_reducible show (∃ _, unr _ _ _ _ _ _); skip) | (with_reducible show UnrI _ _ _ _ _; skip) | (with_reducible show Goes _ _ _ _; skip) | (with_reducible show JoinT _ _ _ _ _ _ _; skip) | (first | ((try dsimp only [Shp.D, Shp.Ds, Shp.dflt] at *); simp only [vem, veq, ne_eq, cmpI, arI, dvI, shI, SV.den, obLt, elemAt, obApp, partL, obPart, lowD, highD, mxOk, convL_self, zerosB, List.length_replicate, vln] at *; (try dsimp only [Shp.D, Shp.Ds, Shp.dflt, Shp.dflts] at *); done) | ((try dsimp only [Shp.D, Shp.Ds, Shp.dflt] at *); simp only [vem, veq, ne_eq, cmpI, arI, dvI, shI, SV.den, obLt, elemAt, obApp, partL, obPart, lowD, highD, mxOk, convL_self, zerosB, List.length_replicate, vln] at *; (try dsimp only [Shp.D, Shp.Ds, Shp.dflt, Shp.dflts] at *); omega) | ((try dsimp only [Shp.D, Shp.Ds, Shp.dflt] at *); simp only [vem, veq, ne_eq, cmpI, arI, dvI, shI, SV.den, obLt, elemAt, obApp, partL, obPart, lowD, highD, mxOk, convL_self, zerosB, List.length_replicate, vln] at *; (try dsimp only [Shp.D, Shp.Ds, Shp.dflt, Shp.dflts] at *); intro h0; subst h0; simp at h; done) | (try ((try dsimp only [Shp.D, Shp.Ds, Shp.dflt] at *); simp only [vem, veq, ne_eq, cmpI, arI, dvI, shI, SV.den, obLt, elemAt, obApp, partL, obPart, lowD, highD, mxOk, convL_self, zerosB, List.length_replicate, vln] at *; (try dsimp only [Shp.D, Shp.Ds, Shp.dflt, Shp.dflts] at *))))
 all_goals first
  | (((with_reducible refine hR2 _ ?_ (fun zq bq tq yq hUq => ?_)); (focus (exact EndOk.au)); (have q6 := hUq.z 6); (cbv at q6); (replace q6 := q6.eq); (simp only [atI, atB, atT, atY, convL_self, vem, veq, ne_eq, cmpI, arI, dvI, shI, SV.den] at q6); (clear hUq hR2); (try dsimp only [Shp.D, Shp.Ds, Shp.dflt] at *); (try simp only [vem, veq, ne_eq, cmpI, arI, dvI, shI, SV.den, elemAt, convL_self] at *); (try dsimp only [Shp.D, Shp.Ds, Shp.dflt, Shp.dflts] at *)); (try ((try dsimp only [Shp.D, Shp.Ds, Shp.dflt] at *); simp only [vem, veq, ne_eq, cmpI, arI, dvI, shI, SV.den, obLt, elemAt, obApp, partL, obPart, lowD, highD, mxOk, convL_self, zerosB, List.length_replicate, vln] at *; (try dsimp only [Shp.D, Shp.Ds, Shp.dflt, Shp.dflts] at *))); exact go_i r1 (by assumption) ht q6)
  | (((with_reducible refine hR1 _ ?_ (fun zq bq tq yq hUq => ?_)); (focus (exact EndOk.au)); (have q5 := hUq.z 5); (cbv at q5); (replace q5 := q5.eq); (simp only [atI, atB, atT, atY, convL_self, vem, veq, ne_eq, cmpI, arI, dvI, shI, SV.den] at q5); (clear hUq hR1); (try dsimp only [Shp.D, Shp.Ds, Shp.dflt] at *); (try simp only [vem, veq, ne_eq, cmpI, arI, dvI, shI, SV.den, elemAt, convL_self] at *); (try dsimp only [Shp.D, Shp.Ds, Shp.dflt, Shp.dflts] at *)); (try ((try dsimp only [Shp.D, Shp.Ds, Shp.dflt] at *); simp only [vem, veq, ne_eq, cmpI, arI, dvI, shI, SV.den, obLt, elemAt, obApp, partL, obPart, lowD, highD, mxOk, convL_self, zerosB, List.length_replicate, vln] at *; (try dsimp only [Shp.D, Shp.Ds, Shp.dflt, Shp.dflts] at *))); exact go_i p1 (by assumption) ha q5)
  | (trace_state; skip)
def a04C_t : SpecT := nd0 15 (lf0 13 (ppSp)) (nd0 17 (lf0 15 (samSp)) (lf0 17 (pbuSp)))
def a04C : Cx := ⟨tt, qt, bt, st, a04C_t, 0, 1000000000000000, fun _ => none, false, CxE.no, []⟩
theorem a04C_si {E : Env} (h : E.ok) : SpecsOk Try.prog E (CxE.no) a04C_t (fun _ => none) := ⟨(nd0_ok (lf0_ok (.inl (pps_sp h))) (nd0_ok (lf0_ok (.inl (sam_sp h))) (lf0_ok (.inl (pbu_sp h))))), noI_ok _ _ _⟩
theorem a04C_x {E : Env} (h : E.ok) : CxEOk Try.prog E (CxE.no) := CxE.no_ok _ _
theorem a04C_cx (E : Env) (h : E.ok) (h1 : E.lo = 0) (h2 : E.hi = 1000000000000000) : Cx.ok a04C Try.prog E := ⟨tt_ok, qt_ok, bt_ok, a04C_si h, h, h1, h2, mixed_ok, a04C_x h⟩
theorem a04C_from (lo hi : Nat) (E : Env) (h : E.ok) (h1 : E.lo = lo) (h2 : E.hi = hi) : Cx.ok (Cx.from a04C lo hi) Try.prog E := ⟨tt_ok, qt_ok, bt_ok, a04C_si h, h, h1, h2, mixed_ok, a04C_x h⟩
abbrev ex04 : List PrT := [(1, 3, [toB 1, toB 2, toB 3, toB 4], [(1, 28, 0, ())], ())]
theorem a04_fn : hasFn Try.prog 7 := ⟨_, Try.func7, by rfl, by rfl⟩
theorem ex_chk : chkF ex04 = 0 := by decide
theorem bld_eq {l : List PrT} {x : List UInt8} {e : Int} {P : Prop} (h : (x, e) = bldF l ∧ P) (hc : chkF l = 0) : x = prsB l ∧ e = 0 := by
 have h := h.1
 unfold bldF at h
 rw [if_pos hc] at h
 exact ⟨congrArg (·.1) h, congrArg (·.2) h⟩
theorem bld_par {l m : List PrT} {x : List UInt8} {e f : Int} {P Q : Prop} (h : (x, e) = bldF l ∧ P) (h2 : (m, f) = parP x ∧ Q) (hc : chkF l = 0) : m = l ∧ f = 0 := by
 have h2 := h2.1
 rw [(bld_eq h hc).1, par_back hc] at h2
 exact ⟨congrArg (·.1) h2, congrArg (·.2) h2⟩
theorem ex_len : (prsB ex04).length = 20 := by decide
theorem prsB_le : ∀ {l : List PrT}, (∀ p ∈ l, PrOk p) → (prsB l).length ≤ 304 * l.length
 | [], _ => by simp [prsB]
 | p :: l, h => by
   have h1 := prsB_le (l := l) fun q hq => h q (List.mem_cons_of_mem _ hq)
   have h2 := (prB_le (h p List.mem_cons_self)).1
   rw [prsB, List.length_append, partB_len, List.length_cons]
   omega
theorem bld_le (l : List PrT) : (bldF l).1.length ≤ 2432 := by
 unfold bldF
 split
 ·rename_i h
  have h1 := prsB_le (chk_ok h).1
  have h2 := (chk_0 h).2.1
  show (prsB l).length ≤ _
  omega
 ·simp
theorem bld_len {l : List PrT} {x : List UInt8} {e : Int} {P : Prop} (h : (x, e) = bldF l ∧ P) : x.length ≤ 2432 := by
 have := bld_le l
 rw [← h.1] at this
 exact this
abbrev aw4Sp : Spec := fnSpec [] [.bool] [] (fun _ => True) fun _ y => y.1 = true
theorem aw4_sp {E : Env} (hE : E.ok) : SpecOk Try.prog E 7 aw4Sp := by
 refine spec_of_vc (C := a04C) a04_fn Try.func7 (by kernel_rfl) a04C_cx (fun x hl hx => ?_) hE
 obtain ⟨⟩ := x
 cbv
 (repeat' (first | ((with_reducible apply And.intro <;> intro h) <;> (first | with_reducible exact (tf h (by assumption)).elim | with_reducible exact (tf (by assumption) h).elim | cbv)) | ((with_reducible show JoinT (fun s K => vc _ (Code.region _ _ true) s K) _ _ _ _ _ _); (with_reducible apply JoinT.mg2); (focus (cbv; (repeat' (first | ((with_reducible apply And.intro <;> intro h) <;> (first | with_reducible exact (tf h (by assumption)).elim | with_reducible exact (tf (by assumption) h).elim | cbv)) | ((with_reducible first | refine Cb.mk ?_ | refine Lz.mk ?_ | refine JoinT.left ?_ | (apply AllT.mk; intro x hx)); cbv) | ((with_reducible refine Ob.mk (fun _ => ?_) ?_); rotate_left 1) | (with_reducible first | refine Mg.mk (Exists.intro ?_ (And.intro ?_ ?_)) | rfl | refine Fin.mk ?_ | exact True.intro | refine And.intro ?_ ?_))); (all_goals (try (have du : Unit := (); have dv : Unit := (); first | exact Goes.self (Ex2.mk ⟨dv, du, trivial, trivial, rfl⟩) | exact Goes.self (Ex2.mk ⟨x, du, hx, trivial, rfl⟩) | (rename_i xa hxa; exact Goes.self (Ex2.mk ⟨xa, x, hxa, hx, rfl⟩))))); (all_goals (fail_if_success (with_reducible first | show Goes _ _ _ _ | show (∃ _, unr _ _ _ _ _ _))))))) | ((with_reducible first | refine Cb.mk ?_ | refine Lz.mk ?_ | refine JoinT.left ?_ | (apply AllT.mk; intro x hx)); cbv) | ((with_reducible refine Ob.mk (fun _ => ?_) ?_); rotate_left 1) | (with_reducible first | refine Mg.mk (Exists.intro ?_ (And.intro ?_ ?_)) | rfl | refine Fin.mk ?_ | exact True.intro | refine And.intro ?_ ?_)))
 all_goals first | (with_reducible show (∃ _, unr _ _ _ _ _ _); skip) | (with_reducible show UnrI _ _ _ _ _; skip) | (with_reducible show Goes _ _ _ _; skip) | (with_reducible show JoinT _ _ _ _ _ _ _; skip) | (first | ((try dsimp only [Shp.D, Shp.Ds, Shp.dflt] at *); simp only [vem, veq, ne_eq, cmpI, arI, dvI, shI, SV.den, obLt, elemAt, obApp, partL, obPart, lowD, highD, mxOk, convL_self, zerosB, List.length_replicate, vln] at *; (try dsimp only [Shp.D, Shp.Ds, Shp.dflt, Shp.dflts] at *); done) | ((try dsimp only [Shp.D, Shp.Ds, Shp.dflt] at *); simp only [vem, veq, ne_eq, cmpI, arI, dvI, shI, SV.den, obLt, elemAt, obApp, partL, obPart, lowD, highD, mxOk, convL_self, zerosB, List.length_replicate, vln] at *; (try dsimp only [Shp.D, Shp.Ds, Shp.dflt, Shp.dflts] at *); omega) | (try ((try dsimp only [Shp.D, Shp.Ds, Shp.dflt] at *); simp only [vem, veq, ne_eq, cmpI, arI, dvI, shI, SV.den, obLt, elemAt, obApp, partL, obPart, lowD, highD, mxOk, convL_self, zerosB, List.length_replicate, vln] at *; (try dsimp only [Shp.D, Shp.Ds, Shp.dflt, Shp.dflts] at *))))
 all_goals first
  | (exact Nat.le_trans (bld_len ‹(_, _) = bldF _ ∧ _›) (by decide))
  | (exact hx.1 (bld_par (l := ex04) ‹(_, _) = bldF _ ∧ _› ‹(_, _) = parP _ ∧ _› ex_chk).1)
  | (exfalso; have := (bld_eq (l := ex04) ‹(_, _) = bldF _ ∧ _› ex_chk).2; contradiction)
  | (exfalso; have := (bld_par (l := ex04) ‹(_, _) = bldF _ ∧ _› ‹(_, _) = parP _ ∧ _› ex_chk).2; contradiction)
  | (exfalso; have e := (bld_eq (l := ex04) ‹(_, _) = bldF _ ∧ _› ex_chk).1; rw [e, ex_len] at h; exact h rfl)
end Go.Proofs.Ytkeefgiajogkkaa.V
