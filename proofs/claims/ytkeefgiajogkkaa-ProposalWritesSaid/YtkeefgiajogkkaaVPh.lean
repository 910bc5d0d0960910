/- The law ProposalWrites. -/
import Derived.Test.YtkeefgiajogkkaaVPn
import Derived.Test.YtkeefgiajogkkaaVPj
import Derived.Test.YtkeefgiajogkkaaVL
set_option linter.unusedVariables false
set_option linter.unusedSimpArgs false
namespace Go.Proofs.Ytkeefgiajogkkaa.V
open Go.RowKit
set_option maxHeartbeats 8000000
set_option maxRecDepth 100000
theorem sp_of {pr : Int} {l : List PrT} (h : PropsG pr l) (hl : l.length ≤ 100) : SpG 6 l := by
 refine ⟨hl, fun k => ?_⟩
 by_cases hk : k < l.length
 ·exact (h.ok k hk).le
 ·rw [List.getD_eq_getElem?_getD, List.getElem?_eq_none (by omega)]
  exact Nat.zero_le _
theorem sp_mono {n m : Nat} {l : List PrT} (h : SpG n l) (hm : n ≤ m) : SpG m l := ⟨h.len, fun k => Nat.le_trans (h.tr k) hm⟩
theorem sp_g {pr k : Int} {x : List PrT} {Q : Prop} (h : (PropsG pr x ∧ 1 ≤ x.length ∧ (x.length : Int) ≤ k) ∧ Q) (hk : k ≤ 100) : SpG 1000 x := sp_mono (sp_of h.1.1 (by have := h.1.2.2; omega)) (by decide)
theorem sp_i {pr k : Int} {x y : List PrT} {Q R : Prop} (h : SpI y x ∧ Q) (h2 : (PropsG pr y ∧ 1 ≤ y.length ∧ (y.length : Int) ≤ k) ∧ R) (hk : k ≤ 100) : SpG 1000 x := sp_mono (h.1.ok 6 (sp_of h2.1.1 (by have := h2.1.2.2; omega))) (by decide)
theorem wr_e {a a' : List UInt8} {e e' : Int} {b : List UInt8 × Int} {P Q : Prop} (h : (a, e) = b ∧ P) (h' : (a', e') = b ∧ Q) : e = e' := by
 have := h.1.trans h'.1.symm
 exact (Prod.mk.inj this).2
theorem wr_a {a a' : List UInt8} {e e' : Int} {b : List UInt8 × Int} {P Q : Prop} (h : (a, e) = b ∧ P) (h' : (a', e') = b ∧ Q) : a = a' := by
 have := h.1.trans h'.1.symm
 exact (Prod.mk.inj this).1
theorem wr_b {x : Bool} {a a' : List UInt8} {Q : Prop} (h : x = decide (a = a') ∧ Q) (h2 : (!x) = true) (hp : a = a') : False := by
 rw [h.1, decide_eq_true hp] at h2
 cases h2
abbrev wriAs : List Shp := [.sl .byte]
def pwrC_t : SpecT := nd0 16 (nd0 9 (nd0 8 (lf0 7 (aw4Sp)) (lf0 8 (newSpec 49))) (nd0 10 (lf0 9 (pbuSp)) (nd0 11 (lf0 10 (propS)) (lf0 11 (nextS))))) (nd0 18 (nd0 17 (lf0 16 (spoS)) (lf0 17 (pbuSp))) (nd0 19 (lf0 18 (eqlS)) (nd0 20 (lf0 19 (chkS)) (lf0 20 (chkS)))))
def pwrC : Cx := ⟨tt, qt, bt, st, pwrC_t, 0, 1000000000000000, fun _ => none, false, CxE.no, []⟩
theorem pwrC_si {E : Env} (h : E.ok) : SpecsOk Try.prog E (CxE.no) pwrC_t (fun _ => none) := ⟨(nd0_ok (nd0_ok (nd0_ok (lf0_ok (.inl (aw4_sp h))) (lf0_ok (.inl (new_sp h)))) (nd0_ok (lf0_ok (.inl (rbu_sp h))) (nd0_ok (lf0_ok (.inl (prop_sp h))) (lf0_ok (.inl (next_sp h)))))) (nd0_ok (nd0_ok (lf0_ok (.inl (spo_sp h))) (lf0_ok (.inl (pbu_sp h)))) (nd0_ok (lf0_ok (.inl (reql_sp h))) (nd0_ok (lf0_ok (.inl (pck_sp h))) (lf0_ok (.inl (roc_sp h))))))), noI_ok _ _ _⟩
theorem pwrC_x {E : Env} (h : E.ok) : CxEOk Try.prog E (CxE.no) := CxE.no_ok _ _
theorem pwrC_cx (E : Env) (h : E.ok) (h1 : E.lo = 0) (h2 : E.hi = 1000000000000000) : Cx.ok pwrC Try.prog E := ⟨tt_ok, qt_ok, bt_ok, pwrC_si h, h, h1, h2, mixed_ok, pwrC_x h⟩
theorem pwrC_from (lo hi : Nat) (E : Env) (h : E.ok) (h1 : E.lo = lo) (h2 : E.hi = hi) : Cx.ok (Cx.from pwrC lo hi) Try.prog E := ⟨tt_ok, qt_ok, bt_ok, pwrC_si h, h, h1, h2, mixed_ok, pwrC_x h⟩
theorem wri_vc (x : Shp.Ds wriAs) (hi : inrs wriAs x) : vcLaw pwrC Try.f4 wriAs x := by
 obtain ⟨codes, u⟩ := x
 clear hi
 cbv
 (repeat' (first | ((with_reducible apply And.intro <;> intro h) <;> (first | with_reducible exact (tf h (by assumption)).elim | with_reducible exact (tf (by assumption) h).elim | cbv)) | ((with_reducible show JoinT (fun s K => vc _ (Code.region _ _ true) s K) _ _ _ _ _ _); (with_reducible apply JoinT.mg2); (focus (cbv; (repeat' (first | ((with_reducible apply And.intro <;> intro h) <;> (first | with_reducible exact (tf h (by assumption)).elim | with_reducible exact (tf (by assumption) h).elim | cbv)) | ((with_reducible first | refine Cb.mk ?_ | refine Lz.mk ?_ | refine JoinT.left ?_ | (apply AllT.mk; intro x hx)); cbv) | ((with_reducible refine Ob.mk (fun _ => ?_) ?_); rotate_left 1) | (with_reducible first | refine Mg.mk (Exists.intro ?_ (And.intro ?_ ?_)) | rfl | refine Fin.mk ?_ | exact True.intro | refine And.intro ?_ ?_))); (all_goals (try (have du : Unit := (); have dv : Unit := (); first | exact Goes.self (Ex2.mk ⟨dv, du, trivial, trivial, rfl⟩) | exact Goes.self (Ex2.mk ⟨x, du, hx, trivial, rfl⟩) | (rename_i xa hxa; exact Goes.self (Ex2.mk ⟨xa, x, hxa, hx, rfl⟩))))); (all_goals (fail_if_success (with_reducible first | show Goes _ _ _ _ | show (∃ _, unr _ _ _ _ _ _))))))) | ((with_reducible first | refine Cb.mk ?_ | refine Lz.mk ?_ | refine JoinT.left ?_ | (apply AllT.mk; intro x hx)); cbv) | ((with_reducible refine Ob.mk (fun _ => ?_) ?_); rotate_left 1) | (with_reducible first | refine Mg.mk (Exists.intro ?_ (And.intro ?_ ?_)) | rfl | refine Fin.mk ?_ | exact True.intro | refine And.intro ?_ ?_)))
 all_goals first | (with_reducible show (∃ _, unr _ _ _ _ _ _); skip) | (with_reducible show UnrI _ _ _ _ _; skip) | (with_reducible show Goes _ _ _ _; skip) | (with_reducible show JoinT _ _ _ _ _ _ _; skip) | (first | ((try dsimp only [Shp.D, Shp.Ds, Shp.dflt] at *); simp only [vem, veq, ne_eq, cmpI, arI, dvI, shI, SV.den, obLt, elemAt, obApp, partL, obPart, lowD, highD, mxOk, convL_self, zerosB, List.length_replicate, vln] at *; (try dsimp only [Shp.D, Shp.Ds, Shp.dflt, Shp.dflts] at *); done) | ((try dsimp only [Shp.D, Shp.Ds, Shp.dflt] at *); simp only [vem, veq, ne_eq, cmpI, arI, dvI, shI, SV.den, obLt, elemAt, obApp, partL, obPart, lowD, highD, mxOk, convL_self, zerosB, List.length_replicate, vln] at *; (try dsimp only [Shp.D, Shp.Ds, Shp.dflt, Shp.dflts] at *); omega) | (try ((try dsimp only [Shp.D, Shp.Ds, Shp.dflt] at *); simp only [vem, veq, ne_eq, cmpI, arI, dvI, shI, SV.den, obLt, elemAt, obApp, partL, obPart, lowD, highD, mxOk, convL_self, zerosB, List.length_replicate, vln] at *; (try dsimp only [Shp.D, Shp.Ds, Shp.dflt, Shp.dflts] at *))))
 all_goals first
  | (with_reducible show (∃ _, unr _ _ _ _ _ _); skip)
  | (simp_all; done)
 with_reducible refine loop_hv [(6, 900001, 40, prE)] (8 :: rangeN 26 17) [] [900001] (fun z b t y => 0 ≤ z 7 ∧ z 7 ≤ 9 ∧ ((y 900001 prE).length : Int) = z 7) (fun z b t y => (9 - z 7).toNat) (by cbv) (by cbv) ?_ ?_ (fun z1 b1 t1 u1 y1 R1 hP1 hR1 => ?_)
 ·exact EndOk.au
 ·intro zq bq tq yq hUq
  have q7 := hUq.z 7
  have qy900001 := hUq.y 900001 (prE)
  cbv at q7 qy900001
  replace q7 := q7.eq
  replace qy900001 := qy900001.eq
  simp only [atI, atB, atT, atY, convL_self, vem, veq, ne_eq, cmpI, arI, dvI, shI, SV.den] at q7 qy900001
  clear hUq
  try dsimp only [Shp.D, Shp.Ds, Shp.dflt] at *
  try simp only [vem, veq, ne_eq, cmpI, arI, dvI, shI, SV.den, convL_self] at *
  rw [← q7, ← qy900001]
  exact ⟨by omega, by omega, by simp⟩
 obtain ⟨p1, p2, p3⟩ := hP1
 cbv
 (repeat' (first | ((with_reducible apply And.intro <;> intro h) <;> (first | with_reducible exact (tf h (by assumption)).elim | with_reducible exact (tf (by assumption) h).elim | cbv)) | ((with_reducible show JoinT (fun s K => vc _ (Code.region _ _ true) s K) _ _ _ _ _ _); (with_reducible apply JoinT.mg2); (focus (cbv; (repeat' (first | ((with_reducible apply And.intro <;> intro h) <;> (first | with_reducible exact (tf h (by assumption)).elim | with_reducible exact (tf (by assumption) h).elim | cbv)) | ((with_reducible first | refine Cb.mk ?_ | refine Lz.mk ?_ | refine JoinT.left ?_ | (apply AllT.mk; intro x hx)); cbv) | ((with_reducible refine Ob.mk (fun _ => ?_) ?_); rotate_left 1) | (with_reducible first | refine Mg.mk (Exists.intro ?_ (And.intro ?_ ?_)) | rfl | refine Fin.mk ?_ | exact True.intro | refine And.intro ?_ ?_))); (all_goals (try (have du : Unit := (); have dv : Unit := (); first | exact Goes.self (Ex2.mk ⟨dv, du, trivial, trivial, rfl⟩) | exact Goes.self (Ex2.mk ⟨x, du, hx, trivial, rfl⟩) | (rename_i xa hxa; exact Goes.self (Ex2.mk ⟨xa, x, hxa, hx, rfl⟩))))); (all_goals (fail_if_success (with_reducible first | show Goes _ _ _ _ | show (∃ _, unr _ _ _ _ _ _))))))) | ((with_reducible first | refine Cb.mk ?_ | refine Lz.mk ?_ | refine JoinT.left ?_ | (apply AllT.mk; intro x hx)); cbv) | ((with_reducible refine Ob.mk (fun _ => ?_) ?_); rotate_left 1) | (with_reducible first | refine Mg.mk (Exists.intro ?_ (And.intro ?_ ?_)) | rfl | refine Fin.mk ?_ | exact True.intro | refine And.intro ?_ ?_)))
 all_goals first | (with_reducible show (∃ _, unr _ _ _ _ _ _); skip) | (with_reducible show UnrI _ _ _ _ _; skip) | (with_reducible show Goes _ _ _ _; skip) | (with_reducible show JoinT _ _ _ _ _ _ _; skip) | (first | ((try dsimp only [Shp.D, Shp.Ds, Shp.dflt] at *); simp only [vem, veq, ne_eq, cmpI, arI, dvI, shI, SV.den, obLt, elemAt, obApp, partL, obPart, lowD, highD, mxOk, convL_self, zerosB, List.length_replicate, vln] at *; (try dsimp only [Shp.D, Shp.Ds, Shp.dflt, Shp.dflts] at *); done) | ((try dsimp only [Shp.D, Shp.Ds, Shp.dflt] at *); simp only [vem, veq, ne_eq, cmpI, arI, dvI, shI, SV.den, obLt, elemAt, obApp, partL, obPart, lowD, highD, mxOk, convL_self, zerosB, List.length_replicate, vln] at *; (try dsimp only [Shp.D, Shp.Ds, Shp.dflt, Shp.dflts] at *); omega) | (try ((try dsimp only [Shp.D, Shp.Ds, Shp.dflt] at *); simp only [vem, veq, ne_eq, cmpI, arI, dvI, shI, SV.den, obLt, elemAt, obApp, partL, obPart, lowD, highD, mxOk, convL_self, zerosB, List.length_replicate, vln] at *; (try dsimp only [Shp.D, Shp.Ds, Shp.dflt, Shp.dflts] at *))))
 all_goals first
  | (with_reducible show (∃ _, unr _ _ _ _ _ _); skip)
  | (((with_reducible refine hR1 _ ?_ (fun zq bq tq yq hUq => ?_)); (focus (exact EndOk.au)); (have q7 := hUq.z 7); (have qy900001 := hUq.y 900001 (prE)); (cbv at q7 qy900001); (replace q7 := q7.eq); (replace qy900001 := qy900001.eq); (simp only [atI, atB, atT, atY, convL_self, vem, veq, ne_eq, cmpI, arI, dvI, shI, SV.den] at q7 qy900001); (clear hUq hR1); (try dsimp only [Shp.D, Shp.Ds, Shp.dflt] at *); (try simp only [vem, veq, ne_eq, cmpI, arI, dvI, shI, SV.den, elemAt, convL_self] at *); (try dsimp only [Shp.D, Shp.Ds, Shp.dflt, Shp.dflts] at *)); (try ((try dsimp only [Shp.D, Shp.Ds, Shp.dflt] at *); simp only [vem, veq, ne_eq, cmpI, arI, dvI, shI, SV.den, obLt, elemAt, obApp, partL, obPart, lowD, highD, mxOk, convL_self, zerosB, List.length_replicate, vln] at *; (try dsimp only [Shp.D, Shp.Ds, Shp.dflt, Shp.dflts] at *))); refine ⟨⟨by omega, by omega, ?_⟩, by omega⟩; rw [← qy900001, List.length_append, List.length_cons, List.length_nil]; omega)
 with_reducible refine loop_hv [(57632898, 900003, 5, .byte), (57632899, 900002, 42, trE)] (rangeN 44 14) [900450] [900002, 900003] (fun z b t y => 0 ≤ z 11 ∧ z 11 ≤ 25 ∧ ((y 900002 trE).length : Int) = z 11) (fun z b t y => (25 - z 11).toNat) (by cbv) (by cbv) ?_ ?_ (fun z2 b2 t2 u2 y2 R2 hP2 hR2 => ?_)
 ·exact EndOk.au
 ·intro zq bq tq yq hUq
  have q11 := hUq.z 11
  have qy900002 := hUq.y 900002 (trE)
  cbv at q11 qy900002
  replace q11 := q11.eq
  replace qy900002 := qy900002.eq
  simp only [atI, atB, atT, atY, convL_self, vem, veq, ne_eq, cmpI, arI, dvI, shI, SV.den] at q11 qy900002
  clear hUq
  try dsimp only [Shp.D, Shp.Ds, Shp.dflt] at *
  try simp only [vem, veq, ne_eq, cmpI, arI, dvI, shI, SV.den, convL_self] at *
  rw [← q11, ← qy900002]
  exact ⟨by omega, by omega, by simp⟩
 obtain ⟨r1, r2, r3⟩ := hP2
 cbv
 (repeat' (first | ((with_reducible apply And.intro <;> intro h) <;> (first | with_reducible exact (tf h (by assumption)).elim | with_reducible exact (tf (by assumption) h).elim | cbv)) | ((with_reducible show JoinT (fun s K => vc _ (Code.region _ _ true) s K) _ _ _ _ _ _); (with_reducible apply JoinT.mg2); (focus (cbv; (repeat' (first | ((with_reducible apply And.intro <;> intro h) <;> (first | with_reducible exact (tf h (by assumption)).elim | with_reducible exact (tf (by assumption) h).elim | cbv)) | ((with_reducible first | refine Cb.mk ?_ | refine Lz.mk ?_ | refine JoinT.left ?_ | (apply AllT.mk; intro x hx)); cbv) | ((with_reducible refine Ob.mk (fun _ => ?_) ?_); rotate_left 1) | (with_reducible first | refine Mg.mk (Exists.intro ?_ (And.intro ?_ ?_)) | rfl | refine Fin.mk ?_ | exact True.intro | refine And.intro ?_ ?_))); (all_goals (try (have du : Unit := (); have dv : Unit := (); first | exact Goes.self (Ex2.mk ⟨dv, du, trivial, trivial, rfl⟩) | exact Goes.self (Ex2.mk ⟨x, du, hx, trivial, rfl⟩) | (rename_i xa hxa; exact Goes.self (Ex2.mk ⟨xa, x, hxa, hx, rfl⟩))))); (all_goals (fail_if_success (with_reducible first | show Goes _ _ _ _ | show (∃ _, unr _ _ _ _ _ _))))))) | ((with_reducible first | refine Cb.mk ?_ | refine Lz.mk ?_ | refine JoinT.left ?_ | (apply AllT.mk; intro x hx)); cbv) | ((with_reducible refine Ob.mk (fun _ => ?_) ?_); rotate_left 1) | (with_reducible first | refine Mg.mk (Exists.intro ?_ (And.intro ?_ ?_)) | rfl | refine Fin.mk ?_ | exact True.intro | refine And.intro ?_ ?_)))
 all_goals first | (with_reducible show (∃ _, unr _ _ _ _ _ _); skip) | (with_reducible show UnrI _ _ _ _ _; skip) | (with_reducible show Goes _ _ _ _; skip) | (with_reducible show JoinT _ _ _ _ _ _ _; skip) | (first | ((try dsimp only [Shp.D, Shp.Ds, Shp.dflt] at *); simp only [vem, veq, ne_eq, cmpI, arI, dvI, shI, SV.den, obLt, elemAt, obApp, partL, obPart, lowD, highD, mxOk, convL_self, zerosB, List.length_replicate, vln] at *; (try dsimp only [Shp.D, Shp.Ds, Shp.dflt, Shp.dflts] at *); done) | ((try dsimp only [Shp.D, Shp.Ds, Shp.dflt] at *); simp only [vem, veq, ne_eq, cmpI, arI, dvI, shI, SV.den, obLt, elemAt, obApp, partL, obPart, lowD, highD, mxOk, convL_self, zerosB, List.length_replicate, vln] at *; (try dsimp only [Shp.D, Shp.Ds, Shp.dflt, Shp.dflts] at *); omega) | (try ((try dsimp only [Shp.D, Shp.Ds, Shp.dflt] at *); simp only [vem, veq, ne_eq, cmpI, arI, dvI, shI, SV.den, obLt, elemAt, obApp, partL, obPart, lowD, highD, mxOk, convL_self, zerosB, List.length_replicate, vln] at *; (try dsimp only [Shp.D, Shp.Ds, Shp.dflt, Shp.dflts] at *))))
 all_goals first
  | (with_reducible show (∃ _, unr _ _ _ _ _ _); skip)
  | (((with_reducible refine hR2 _ ?_ (fun zq bq tq yq hUq => ?_)); (focus (exact EndOk.au)); (have q11 := hUq.z 11); (have qy900002 := hUq.y 900002 (trE)); (cbv at q11 qy900002); (replace q11 := q11.eq); (replace qy900002 := qy900002.eq); (simp only [atI, atB, atT, atY, convL_self, vem, veq, ne_eq, cmpI, arI, dvI, shI, SV.den] at q11 qy900002); (clear hUq hR2); (try dsimp only [Shp.D, Shp.Ds, Shp.dflt] at *); (try simp only [vem, veq, ne_eq, cmpI, arI, dvI, shI, SV.den, elemAt, convL_self] at *); (try dsimp only [Shp.D, Shp.Ds, Shp.dflt, Shp.dflts] at *)); (try ((try dsimp only [Shp.D, Shp.Ds, Shp.dflt] at *); simp only [vem, veq, ne_eq, cmpI, arI, dvI, shI, SV.den, obLt, elemAt, obApp, partL, obPart, lowD, highD, mxOk, convL_self, zerosB, List.length_replicate, vln] at *; (try dsimp only [Shp.D, Shp.Ds, Shp.dflt, Shp.dflts] at *))); refine ⟨⟨by omega, by omega, ?_⟩, by omega⟩; rw [← qy900002, List.length_append, List.length_cons, List.length_nil]; omega)
  | exact sp_g (by assumption) (by decide)
  | exact sp_i (by assumption) (by assumption) (by decide)
 iterate 4
  focus
   refine ⟨8, ?_⟩
   cbv
   (repeat' (first | ((with_reducible apply And.intro <;> intro h) <;> (first | with_reducible exact (tf h (by assumption)).elim | with_reducible exact (tf (by assumption) h).elim | cbv)) | ((with_reducible show JoinT (fun s K => vc _ (Code.region _ _ true) s K) _ _ _ _ _ _); (with_reducible apply JoinT.mg2); (focus (cbv; (repeat' (first | ((with_reducible apply And.intro <;> intro h) <;> (first | with_reducible exact (tf h (by assumption)).elim | with_reducible exact (tf (by assumption) h).elim | cbv)) | ((with_reducible first | refine Cb.mk ?_ | refine Lz.mk ?_ | refine JoinT.left ?_ | (apply AllT.mk; intro x hx)); cbv) | ((with_reducible refine Ob.mk (fun _ => ?_) ?_); rotate_left 1) | (with_reducible first | refine Mg.mk (Exists.intro ?_ (And.intro ?_ ?_)) | rfl | refine Fin.mk ?_ | exact True.intro | refine And.intro ?_ ?_))); (all_goals (try (have du : Unit := (); have dv : Unit := (); first | exact Goes.self (Ex2.mk ⟨dv, du, trivial, trivial, rfl⟩) | exact Goes.self (Ex2.mk ⟨x, du, hx, trivial, rfl⟩) | (rename_i xa hxa; exact Goes.self (Ex2.mk ⟨xa, x, hxa, hx, rfl⟩))))); (all_goals (fail_if_success (with_reducible first | show Goes _ _ _ _ | show (∃ _, unr _ _ _ _ _ _))))))) | ((with_reducible first | refine Cb.mk ?_ | refine Lz.mk ?_ | refine JoinT.left ?_ | (apply AllT.mk; intro x hx)); cbv) | ((with_reducible refine Ob.mk (fun _ => ?_) ?_); rotate_left 1) | (with_reducible first | refine Mg.mk (Exists.intro ?_ (And.intro ?_ ?_)) | rfl | refine Fin.mk ?_ | exact True.intro | refine And.intro ?_ ?_)))
   all_goals first | (with_reducible show (∃ _, unr _ _ _ _ _ _); skip) | (with_reducible show UnrI _ _ _ _ _; skip) | (with_reducible show Goes _ _ _ _; skip) | (with_reducible show JoinT _ _ _ _ _ _ _; skip) | (first | ((try dsimp only [Shp.D, Shp.Ds, Shp.dflt] at *); simp only [vem, veq, ne_eq, cmpI, arI, dvI, shI, SV.den, obLt, elemAt, obApp, partL, obPart, lowD, highD, mxOk, convL_self, zerosB, List.length_replicate, vln] at *; (try dsimp only [Shp.D, Shp.Ds, Shp.dflt, Shp.dflts] at *); done) | ((try dsimp only [Shp.D, Shp.Ds, Shp.dflt] at *); simp only [vem, veq, ne_eq, cmpI, arI, dvI, shI, SV.den, obLt, elemAt, obApp, partL, obPart, lowD, highD, mxOk, convL_self, zerosB, List.length_replicate, vln] at *; (try dsimp only [Shp.D, Shp.Ds, Shp.dflt, Shp.dflts] at *); omega) | (try ((try dsimp only [Shp.D, Shp.Ds, Shp.dflt] at *); simp only [vem, veq, ne_eq, cmpI, arI, dvI, shI, SV.den, obLt, elemAt, obApp, partL, obPart, lowD, highD, mxOk, convL_self, zerosB, List.length_replicate, vln] at *; (try dsimp only [Shp.D, Shp.Ds, Shp.dflt, Shp.dflts] at *))))
   all_goals first
    | exact (wr_b hx h (wr_a (by assumption) (by assumption))).elim
    | exact absurd trivial h
    | exact absurd (wr_e (by assumption) (by assumption)) h
theorem law_ProposalWrites (x : Shp.Ds wriAs) (w : World) (vals : List Value) (hr : ArgsRep w wriAs x vals) (hi : inrs wriAs x) : Calls Try.prog 4 vals.toArray w fun e w' => e = .returned (.bool true) ∧ Below w.heap.size w w' :=
 law_of_vc Try.func4 (by kernel_rfl) pwrC_cx hr (wri_vc x hi)
end Go.Proofs.Ytkeefgiajogkkaa.V
