/- Contract: the document's Build of proposals. -/
import Derived.Test.YtkeefgiajogkkaaVPb
set_option linter.unusedVariables false
set_option linter.unusedSimpArgs false
namespace Go.Proofs.Ytkeefgiajogkkaa.V
open Go.RowKit
set_option maxHeartbeats 8000000
set_option maxRecDepth 100000
theorem toB_if (k n a : Int) (m : Int) (h : (k = n ∧ m = 0) ∨ (¬ k = n ∧ m = a)) (hk : k ≤ n) : m = if k < n then a else 0 := by split <;> omega
theorem rb_go {ts : List TrT} {acc aq x1 x2 x4 T : List UInt8} {k kq m n : Int} (h : acc ++ trsB (ts.drop k.toNat) = T) (h0 : 0 ≤ k) (hk : k < ts.length) (h24 : ts.length ≤ 24) (hl : (acc.length : Int) ≤ 12 * k)
    (hx1 : x1 = acc ++ [toB m, toB 0] ++ putF n 2) (hx2 : x2 = x1 ++ [toB (IntKind.u8.wrap (ts.getD k.toNat (0, 0, 0, ())).1), toB 0] ++ putF (IntKind.u64.wrap (ts.getD k.toNat (0, 0, 0, ())).2.1) 2)
    (hm : (k = ((ts.length : Int) - 1 + 9223372036854775808) % 18446744073709551616 - 9223372036854775808 ∧ m = 0) ∨ (¬ k = ((ts.length : Int) - 1 + 9223372036854775808) % 18446744073709551616 - 9223372036854775808 ∧ m = 3))
    (he : ((ts.getD k.toNat (0, 0, 0, ())).2.2.1 = 0 ∧ n = 8 ∧ x4 = x2) ∨ (¬ (ts.getD k.toNat (0, 0, 0, ())).2.2.1 = 0 ∧ n = 12 ∧ x4 = x2 ++ putF 32782 2 ++ putF (IntKind.u64.wrap (ts.getD k.toNat (0, 0, 0, ())).2.2.1) 2))
    (q : (k + 1 + 9223372036854775808) % 18446744073709551616 - 9223372036854775808 = kq) (qx : x4 = aq) :
    (0 ≤ kq ∧ kq ≤ ts.length ∧ (aq.length : Int) ≤ 12 * kq ∧ aq ++ trsB (ts.drop kq.toNat) = T) ∧ ((ts.length : Int) - kq).toNat < ((ts.length : Int) - k).toNat := by
 rw [wriB (by omega)] at q hm
 have hm' := toB_if _ _ 3 m hm (by omega)
 have e : x4 = acc ++ partB m (trB (ts.getD k.toNat (0, 0, 0, ()))) := by
  have hb := trB_len (ts.getD k.toNat (0, 0, 0, ()))
  unfold partB
  rw [hb]
  unfold trB
  rcases he with ⟨h1, h2, h3⟩ | ⟨h1, h2, h3⟩
  ·rw [h3, hx2, hx1, if_pos h1, if_pos h1, h2]
   simp only [List.append_assoc, List.append_nil]
   rfl
  ·rw [h3, hx2, hx1, if_neg h1, if_neg h1, h2]
   simp only [List.append_assoc]
   rfl
 have e2 := bt_step h h0 hk hm' q
 have hb := trB_len (ts.getD k.toNat (0, 0, 0, ()))
 subst qx e
 refine ⟨⟨by omega, by omega, ?_, e2⟩, by omega⟩
 rw [List.length_append, partB_len]
 split at hb <;> omega
theorem rb_out {l : List PrT} {acc aq x1 x0 T : List UInt8} {k kq z m : Int} (h : acc ++ prsB (l.drop k.toNat) = T) (h0 : 0 ≤ k) (hk : k < l.length) (h8 : l.length ≤ 8) (hl : (acc.length : Int) ≤ 408 * k) (hc : chkF l = 0) (hz : ¬ z < ((l.getD k.toNat (0, 0, [], [], ())).2.2.2.1.length : Int)) (hz1 : z ≤ 24) (hxl : (x0.length : Int) ≤ 12 * z)
    (hx0 : x0 ++ trsB ((l.getD k.toNat (0, 0, [], [], ())).2.2.2.1.drop z.toNat) = trsB (l.getD k.toNat (0, 0, [], [], ())).2.2.2.1)
    (hm : (k = ((l.length : Int) - 1 + 9223372036854775808) % 18446744073709551616 - 9223372036854775808 ∧ m = 0) ∨ (¬ k = ((l.length : Int) - 1 + 9223372036854775808) % 18446744073709551616 - 9223372036854775808 ∧ m = 2))
    (hx1 : x1 = acc ++ [toB m, toB 0] ++ putF (IntKind.u64.wrap (((8 + ((l.getD k.toNat (0, 0, [], [], ())).2.2.1.length : Int) + 9223372036854775808) % 18446744073709551616 - 9223372036854775808 + (x0.length : Int) + 9223372036854775808) % 18446744073709551616 - 9223372036854775808)) 2)
    (q : (k + 1 + 9223372036854775808) % 18446744073709551616 - 9223372036854775808 = kq)
    (qx : x1 ++ [toB (IntKind.u8.wrap (l.getD k.toNat (0, 0, [], [], ())).1), toB (IntKind.u8.wrap (l.getD k.toNat (0, 0, [], [], ())).2.1), toB (IntKind.u8.wrap (l.getD k.toNat (0, 0, [], [], ())).2.2.1.length), toB (IntKind.u8.wrap (l.getD k.toNat (0, 0, [], [], ())).2.2.2.1.length)] ++ (l.getD k.toNat (0, 0, [], [], ())).2.2.1 ++ x0 = aq) :
    (0 ≤ kq ∧ kq ≤ l.length ∧ (aq.length : Int) ≤ 408 * kq ∧ aq ++ prsB (l.drop kq.toNat) = T) ∧ ((l.length : Int) - kq).toNat < ((l.length : Int) - k).toNat := by
 obtain ⟨s1, s2⟩ := chk_at hc h0 hk
 rw [wriB (by omega)] at q hm
 rw [wriB (x := 8 + _) (by omega), wriB (by omega)] at hx1
 have hm' := toB_if _ _ 2 m hm (by omega)
 rw [List.drop_eq_nil_of_le (by omega), trsB, List.append_nil] at hx0
 have e : aq = acc ++ partB m (prB (l.getD k.toNat (0, 0, [], [], ()))) := by
  have hb : ((prB (l.getD k.toNat (0, 0, [], [], ()))).length : Int) + 4 = 8 + ((l.getD k.toNat (0, 0, [], [], ())).2.2.1.length : Int) + (x0.length : Int) := by
   unfold prB hdB
   rw [← hx0]
   simp only [List.length_append, List.length_cons, List.length_nil]
   omega
  unfold partB
  rw [hb, ← qx, hx1]
  unfold prB hdB
  rw [← hx0]
  simp only [List.append_assoc]
 have e2 := bp_step h h0 hk hm' q
 have hb : (prB (l.getD k.toNat (0, 0, [], [], ()))).length = 4 + (l.getD k.toNat (0, 0, [], [], ())).2.2.1.length + x0.length := by
  unfold prB hdB
  rw [← hx0]
  simp only [List.length_append, List.length_cons, List.length_nil]
 rw [← e] at e2
 refine ⟨⟨by omega, by omega, ?_, e2⟩, by omega⟩
 rw [e, List.length_append, partB_len]
 omega
def rbuC_t : SpecT := nd0 21 (lf0 20 (chkS)) (lf0 21 (rputS))
def rbuC : Cx := ⟨tt, qt, bt, st, rbuC_t, 0, 1000000000000000, fun _ => none, false, CxE.no, []⟩
theorem rbuC_si {E : Env} (h : E.ok) : SpecsOk Try.prog E (CxE.no) rbuC_t (fun _ => none) := ⟨(nd0_ok (lf0_ok (.inl (roc_sp h))) (lf0_ok (.inl (rput_sp h)))), noI_ok _ _ _⟩
theorem rbuC_x {E : Env} (h : E.ok) : CxEOk Try.prog E (CxE.no) := CxE.no_ok _ _
theorem rbuC_cx (E : Env) (h : E.ok) (h1 : E.lo = 0) (h2 : E.hi = 1000000000000000) : Cx.ok rbuC Try.prog E := ⟨tt_ok, qt_ok, bt_ok, rbuC_si h, h, h1, h2, mixed_ok, rbuC_x h⟩
theorem rbuC_from (lo hi : Nat) (E : Env) (h : E.ok) (h1 : E.lo = lo) (h2 : E.hi = hi) : Cx.ok (Cx.from rbuC lo hi) Try.prog E := ⟨tt_ok, qt_ok, bt_ok, rbuC_si h, h, h1, h2, mixed_ok, rbuC_x h⟩
theorem rbu_fn : hasFn Try.prog 9 := ⟨_, Try.func9, by rfl, by rfl⟩
theorem rbu_sp {E : Env} (hE : E.ok) : SpecOk Try.prog E 9 pbuSp := by
 refine spec_of_vc (C := rbuC) rbu_fn Try.func9 (by kernel_rfl) rbuC_cx (fun x hl hx => ?_) hE
 obtain ⟨l, ⟨⟩⟩ := x
 cbv
 (repeat' (first | ((with_reducible apply And.intro <;> intro h) <;> (first | with_reducible exact (tf h (by assumption)).elim | with_reducible exact (tf (by assumption) h).elim | cbv)) | ((with_reducible show JoinT (fun s K => vc _ (Code.region _ _ true) s K) _ _ _ _ _ _); (with_reducible apply JoinT.mg2); (focus (cbv; (repeat' (first | ((with_reducible apply And.intro <;> intro h) <;> (first | with_reducible exact (tf h (by assumption)).elim | with_reducible exact (tf (by assumption) h).elim | cbv)) | ((with_reducible first | refine Cb.mk ?_ | refine Lz.mk ?_ | refine JoinT.left ?_ | (apply AllT.mk; intro x hx)); cbv) | ((with_reducible refine Ob.mk (fun _ => ?_) ?_); rotate_left 1) | (with_reducible first | refine Mg.mk (Exists.intro ?_ (And.intro ?_ ?_)) | rfl | refine Fin.mk ?_ | exact True.intro | refine And.intro ?_ ?_))); (all_goals (try (have du : Unit := (); have dv : Unit := (); first | exact Goes.self (Ex2.mk ⟨dv, du, trivial, trivial, rfl⟩) | exact Goes.self (Ex2.mk ⟨x, du, hx, trivial, rfl⟩) | (rename_i xa hxa; exact Goes.self (Ex2.mk ⟨xa, x, hxa, hx, rfl⟩))))); (all_goals (fail_if_success (with_reducible first | show Goes _ _ _ _ | show (∃ _, unr _ _ _ _ _ _))))))) | ((with_reducible first | refine Cb.mk ?_ | refine Lz.mk ?_ | refine JoinT.left ?_ | (apply AllT.mk; intro x hx)); cbv) | ((with_reducible refine Ob.mk (fun _ => ?_) ?_); rotate_left 1) | (with_reducible first | refine Mg.mk (Exists.intro ?_ (And.intro ?_ ?_)) | rfl | refine Fin.mk ?_ | exact True.intro | refine And.intro ?_ ?_)))
 all_goals first | (with_reducible show (∃ _, unr _ _ _ _ _ _); skip) | (with_reducible show UnrI _ _ _ _ _; skip) | (with_reducible show Goes _ _ _ _; skip) | (with_reducible show JoinT _ _ _ _ _ _ _; skip) | (first | ((try dsimp only [Shp.D, Shp.Ds, Shp.dflt] at *); simp only [vem, veq, ne_eq, cmpI, arI, dvI, shI, SV.den, obLt, elemAt, obApp, partL, obPart, lowD, highD, mxOk, convL_self, zerosB, List.length_replicate, vln] at *; (try dsimp only [Shp.D, Shp.Ds, Shp.dflt, Shp.dflts] at *); done) | ((try dsimp only [Shp.D, Shp.Ds, Shp.dflt] at *); simp only [vem, veq, ne_eq, cmpI, arI, dvI, shI, SV.den, obLt, elemAt, obApp, partL, obPart, lowD, highD, mxOk, convL_self, zerosB, List.length_replicate, vln] at *; (try dsimp only [Shp.D, Shp.Ds, Shp.dflt, Shp.dflts] at *); omega) | (try ((try dsimp only [Shp.D, Shp.Ds, Shp.dflt] at *); simp only [vem, veq, ne_eq, cmpI, arI, dvI, shI, SV.den, obLt, elemAt, obApp, partL, obPart, lowD, highD, mxOk, convL_self, zerosB, List.length_replicate, vln] at *; (try dsimp only [Shp.D, Shp.Ds, Shp.dflt, Shp.dflts] at *))))
 ·unfold bldF; rw [if_neg (by assumption)]
 have hc : chkF l = 0 := by ((try dsimp only [Shp.D, Shp.Ds, Shp.dflt] at *); simp only [vem, veq, ne_eq, cmpI, arI, dvI, shI, SV.den, obLt, elemAt, obApp, partL, obPart, lowD, highD, mxOk, convL_self, zerosB, List.length_replicate, vln] at *; (try dsimp only [Shp.D, Shp.Ds, Shp.dflt, Shp.dflts] at *); assumption)
 obtain ⟨c1, c2, c3⟩ := chk_0 hc
 have hb : bldF l = (prsB l, 0) := by unfold bldF; rw [if_pos hc]
 with_reducible refine loop_hv [(5, 900001, 5, .byte)] (7 :: 8 :: 9 :: 10 :: 11 :: 12 :: rangeN 17 123) [] [900001] (fun z b t y => 0 ≤ z 6 ∧ z 6 ≤ (l.length : Int) ∧ ((y 900001 .byte).length : Int) ≤ 408 * z 6 ∧ y 900001 .byte ++ prsB (l.drop (z 6).toNat) = prsB l) (fun z b t y => ((l.length : Int) - z 6).toNat) (by cbv) (by cbv) ?_ ?_ (fun z1 b1 t1 u1 y1 R1 hP1 hR1 => ?_)
 ·exact EndOk.au
 ·intro zq bq tq yq hUq
  have q6 := hUq.z 6
  have qy900001 := hUq.y 900001 (.byte)
  cbv at q6 qy900001
  replace q6 := q6.eq
  replace qy900001 := qy900001.eq
  simp only [atI, atB, atT, atY, convL_self, vem, veq, ne_eq, cmpI, arI, dvI, shI, SV.den] at q6 qy900001
  clear hUq
  try dsimp only [Shp.D, Shp.Ds, Shp.dflt] at *
  try simp only [vem, veq, ne_eq, cmpI, arI, dvI, shI, SV.den, convL_self] at *
  rw [← q6, ← qy900001]
  exact ⟨by omega, by omega, by simp, rfl⟩
 obtain ⟨p1, p2, p3, p4⟩ := hP1
 cbv
 (repeat' (first | ((with_reducible apply And.intro <;> intro h) <;> (first | with_reducible exact (tf h (by assumption)).elim | with_reducible exact (tf (by assumption) h).elim | cbv)) | ((with_reducible show JoinT (fun s K => vc _ (Code.region _ _ true) s K) _ _ _ _ _ _); (with_reducible apply JoinT.mg2); (focus (cbv; (repeat' (first | ((with_reducible apply And.intro <;> intro h) <;> (first | with_reducible exact (tf h (by assumption)).elim | with_reducible exact (tf (by assumption) h).elim | cbv)) | ((with_reducible first | refine Cb.mk ?_ | refine Lz.mk ?_ | refine JoinT.left ?_ | (apply AllT.mk; intro x hx)); cbv) | ((with_reducible refine Ob.mk (fun _ => ?_) ?_); rotate_left 1) | (with_reducible first | refine Mg.mk (Exists.intro ?_ (And.intro ?_ ?_)) | rfl | refine Fin.mk ?_ | exact True.intro | refine And.intro ?_ ?_))); (all_goals (try (have du : Unit := (); have dv : Unit := (); first | exact Goes.self (Ex2.mk ⟨dv, du, trivial, trivial, rfl⟩) | exact Goes.self (Ex2.mk ⟨x, du, hx, trivial, rfl⟩) | (rename_i xa hxa; exact Goes.self (Ex2.mk ⟨xa, x, hxa, hx, rfl⟩))))); (all_goals (fail_if_success (with_reducible first | show Goes _ _ _ _ | show (∃ _, unr _ _ _ _ _ _))))))) | ((with_reducible first | refine Cb.mk ?_ | refine Lz.mk ?_ | refine JoinT.left ?_ | (apply AllT.mk; intro x hx)); cbv) | ((with_reducible refine Ob.mk (fun _ => ?_) ?_); rotate_left 1) | (with_reducible first | refine Mg.mk (Exists.intro ?_ (And.intro ?_ ?_)) | rfl | refine Fin.mk ?_ | exact True.intro | refine And.intro ?_ ?_)))
 all_goals first | (with_reducible show (∃ _, unr _ _ _ _ _ _); skip) | (with_reducible show UnrI _ _ _ _ _; skip) | (with_reducible show Goes _ _ _ _; skip) | (with_reducible show JoinT _ _ _ _ _ _ _; skip) | (first | ((try dsimp only [Shp.D, Shp.Ds, Shp.dflt] at *); simp only [vem, veq, ne_eq, cmpI, arI, dvI, shI, SV.den, obLt, elemAt, obApp, partL, obPart, lowD, highD, mxOk, convL_self, zerosB, List.length_replicate, vln] at *; (try dsimp only [Shp.D, Shp.Ds, Shp.dflt, Shp.dflts] at *); done) | ((try dsimp only [Shp.D, Shp.Ds, Shp.dflt] at *); simp only [vem, veq, ne_eq, cmpI, arI, dvI, shI, SV.den, obLt, elemAt, obApp, partL, obPart, lowD, highD, mxOk, convL_self, zerosB, List.length_replicate, vln] at *; (try dsimp only [Shp.D, Shp.Ds, Shp.dflt, Shp.dflts] at *); omega) | (try ((try dsimp only [Shp.D, Shp.Ds, Shp.dflt] at *); simp only [vem, veq, ne_eq, cmpI, arI, dvI, shI, SV.den, obLt, elemAt, obApp, partL, obPart, lowD, highD, mxOk, convL_self, zerosB, List.length_replicate, vln] at *; (try dsimp only [Shp.D, Shp.Ds, Shp.dflt, Shp.dflts] at *))))
 all_goals first
  | (with_reducible show (∃ _, unr _ _ _ _ _ _); skip)
  | (rw [List.drop_eq_nil_of_le (by omega)] at p4; simp only [prsB, List.append_nil] at p4; rw [hb, p4])
 have hlt : z1 6 < (l.length : Int) := by ((try dsimp only [Shp.D, Shp.Ds, Shp.dflt] at *); simp only [vem, veq, ne_eq, cmpI, arI, dvI, shI, SV.den, obLt, elemAt, obApp, partL, obPart, lowD, highD, mxOk, convL_self, zerosB, List.length_replicate, vln] at *; (try dsimp only [Shp.D, Shp.Ds, Shp.dflt, Shp.dflts] at *); assumption)
 obtain ⟨s1, s2⟩ := chk_at hc p1 hlt
 with_reducible refine loop_hv [(7, 900002, 5, .byte)] (9 :: 10 :: 11 :: 12 :: rangeN 22 118) [] [900002] (fun z b t y => 0 ≤ z 8 ∧ z 8 ≤ ((l.getD (z1 6).toNat (0, 0, [], [], ())).2.2.2.1.length : Int) ∧ ((y 900002 .byte).length : Int) ≤ 12 * z 8 ∧ y 900002 .byte ++ trsB ((l.getD (z1 6).toNat (0, 0, [], [], ())).2.2.2.1.drop (z 8).toNat) = trsB (l.getD (z1 6).toNat (0, 0, [], [], ())).2.2.2.1) (fun z b t y => ((((l.getD (z1 6).toNat (0, 0, [], [], ())).2.2.2.1.length : Nat) : Int) - z 8).toNat) (by cbv) (by cbv) ?_ ?_ (fun z2 b2 t2 u2 y2 R2 hP2 hR2 => ?_)
 ·exact EndOk.au
 ·intro zq bq tq yq hUq
  have q8 := hUq.z 8
  have qy900002 := hUq.y 900002 (.byte)
  cbv at q8 qy900002
  replace q8 := q8.eq
  replace qy900002 := qy900002.eq
  simp only [atI, atB, atT, atY, convL_self, vem, veq, ne_eq, cmpI, arI, dvI, shI, SV.den] at q8 qy900002
  clear hUq
  try dsimp only [Shp.D, Shp.Ds, Shp.dflt] at *
  try simp only [vem, veq, ne_eq, cmpI, arI, dvI, shI, SV.den, convL_self] at *
  rw [← q8, ← qy900002]
  exact ⟨by omega, by omega, by simp, rfl⟩
 obtain ⟨r1, r2, r3, r4⟩ := hP2
 have hz : z2 8 ≤ 24 := by omega
 cbv
 (repeat' (first | ((with_reducible apply And.intro <;> intro h) <;> (first | with_reducible exact (tf h (by assumption)).elim | with_reducible exact (tf (by assumption) h).elim | cbv)) | ((with_reducible show JoinT (fun s K => vc _ (Code.region _ _ true) s K) _ _ _ _ _ _); (with_reducible apply JoinT.mg2); (focus (cbv; (repeat' (first | ((with_reducible apply And.intro <;> intro h) <;> (first | with_reducible exact (tf h (by assumption)).elim | with_reducible exact (tf (by assumption) h).elim | cbv)) | ((with_reducible first | refine Cb.mk ?_ | refine Lz.mk ?_ | refine JoinT.left ?_ | (apply AllT.mk; intro x hx)); cbv) | ((with_reducible refine Ob.mk (fun _ => ?_) ?_); rotate_left 1) | (with_reducible first | refine Mg.mk (Exists.intro ?_ (And.intro ?_ ?_)) | rfl | refine Fin.mk ?_ | exact True.intro | refine And.intro ?_ ?_))); (all_goals (try (have du : Unit := (); have dv : Unit := (); first | exact Goes.self (Ex2.mk ⟨dv, du, trivial, trivial, rfl⟩) | exact Goes.self (Ex2.mk ⟨x, du, hx, trivial, rfl⟩) | (rename_i xa hxa; exact Goes.self (Ex2.mk ⟨xa, x, hxa, hx, rfl⟩))))); (all_goals (fail_if_success (with_reducible first | show Goes _ _ _ _ | show (∃ _, unr _ _ _ _ _ _))))))) | ((with_reducible first | refine Cb.mk ?_ | refine Lz.mk ?_ | refine JoinT.left ?_ | (apply AllT.mk; intro x hx)); cbv) | ((with_reducible refine Ob.mk (fun _ => ?_) ?_); rotate_left 1) | (with_reducible first | refine Mg.mk (Exists.intro ?_ (And.intro ?_ ?_)) | rfl | refine Fin.mk ?_ | exact True.intro | refine And.intro ?_ ?_)))
 all_goals first | (with_reducible show (∃ _, unr _ _ _ _ _ _); skip) | (with_reducible show UnrI _ _ _ _ _; skip) | (with_reducible show Goes _ _ _ _; skip) | (with_reducible show JoinT _ _ _ _ _ _ _; skip) | (first | ((try dsimp only [Shp.D, Shp.Ds, Shp.dflt] at *); simp only [vem, veq, ne_eq, cmpI, arI, dvI, shI, SV.den, obLt, elemAt, obApp, partL, obPart, lowD, highD, mxOk, convL_self, zerosB, List.length_replicate, vln] at *; (try dsimp only [Shp.D, Shp.Ds, Shp.dflt, Shp.dflts] at *); done) | ((try dsimp only [Shp.D, Shp.Ds, Shp.dflt] at *); simp only [vem, veq, ne_eq, cmpI, arI, dvI, shI, SV.den, obLt, elemAt, obApp, partL, obPart, lowD, highD, mxOk, convL_self, zerosB, List.length_replicate, vln] at *; (try dsimp only [Shp.D, Shp.Ds, Shp.dflt, Shp.dflts] at *); omega) | (try ((try dsimp only [Shp.D, Shp.Ds, Shp.dflt] at *); simp only [vem, veq, ne_eq, cmpI, arI, dvI, shI, SV.den, obLt, elemAt, obApp, partL, obPart, lowD, highD, mxOk, convL_self, zerosB, List.length_replicate, vln] at *; (try dsimp only [Shp.D, Shp.Ds, Shp.dflt, Shp.dflts] at *))))
 all_goals first
  | (with_reducible show Goes _ _ _ _; skip)
  | (have hs := (chk_at hc p1 (by assumption)).1; refine ⟨?_, ?_⟩ <;> omega)
 all_goals first
  | (((with_reducible refine hR1 _ ?_ (fun zq bq tq yq hUq => ?_)); (focus (exact EndOk.au)); (have q6 := hUq.z 6); (have qy900001 := hUq.y 900001 (.byte)); (cbv at q6 qy900001); (replace q6 := q6.eq); (replace qy900001 := qy900001.eq); (simp only [atI, atB, atT, atY, convL_self, vem, veq, ne_eq, cmpI, arI, dvI, shI, SV.den] at q6 qy900001); (clear hUq hR1); (try dsimp only [Shp.D, Shp.Ds, Shp.dflt] at *); (try simp only [vem, veq, ne_eq, cmpI, arI, dvI, shI, SV.den, elemAt, convL_self] at *); (try dsimp only [Shp.D, Shp.Ds, Shp.dflt, Shp.dflts] at *)); have g1 := (‹(_ = y1 900001 Shp.byte ++ [_, _] ++ putF _ _ ∧ _) ∧ Shp.lims _ _›).1.1; exact rb_out p4 p1 (by assumption) c2 p3 hc (by assumption) hz r3 r4 (by first | exact .inl ⟨by assumption, rfl⟩ | exact .inr ⟨by assumption, rfl⟩) g1 q6 qy900001)
  | (((with_reducible refine hR2 _ ?_ (fun zq bq tq yq hUq => ?_)); (focus (exact EndOk.au)); (have q8 := hUq.z 8); (have qy900002 := hUq.y 900002 (.byte)); (cbv at q8 qy900002); (replace q8 := q8.eq); (replace qy900002 := qy900002.eq); (simp only [atI, atB, atT, atY, convL_self, vem, veq, ne_eq, cmpI, arI, dvI, shI, SV.den] at q8 qy900002); (clear hUq hR2); (try dsimp only [Shp.D, Shp.Ds, Shp.dflt] at *); (try simp only [vem, veq, ne_eq, cmpI, arI, dvI, shI, SV.den, elemAt, convL_self] at *); (try dsimp only [Shp.D, Shp.Ds, Shp.dflt, Shp.dflts] at *)); have g1 := (‹(_ = y2 900002 Shp.byte ++ [_, _] ++ putF _ _ ∧ _) ∧ Shp.lims _ _›).1.1; have g2 := (‹(_ = _ ++ [toB (IntKind.u8.wrap _), _] ++ putF _ _ ∧ _) ∧ Shp.lims _ _›).1.1; exact rb_go r4 r1 (by assumption) s2 r3 g1 g2 (by first | exact .inl ⟨by assumption, rfl⟩ | exact .inr ⟨by assumption, rfl⟩) (.inl ⟨by assumption, rfl, rfl⟩) q8 qy900002)
  | skip
 all_goals (((with_reducible refine hR2 _ ?_ (fun zq bq tq yq hUq => ?_)); (focus (exact EndOk.au)); (have q8 := hUq.z 8); (have qy900002 := hUq.y 900002 (.byte)); (cbv at q8 qy900002); (replace q8 := q8.eq); (replace qy900002 := qy900002.eq); (simp only [atI, atB, atT, atY, convL_self, vem, veq, ne_eq, cmpI, arI, dvI, shI, SV.den] at q8 qy900002); (clear hUq hR2); (try dsimp only [Shp.D, Shp.Ds, Shp.dflt] at *); (try simp only [vem, veq, ne_eq, cmpI, arI, dvI, shI, SV.den, elemAt, convL_self] at *); (try dsimp only [Shp.D, Shp.Ds, Shp.dflt, Shp.dflts] at *)); have g1 := (‹(_ = y2 900002 Shp.byte ++ [_, _] ++ putF _ _ ∧ _) ∧ Shp.lims _ _›).1.1; have g2 := (‹(_ = _ ++ [toB (IntKind.u8.wrap _), _] ++ putF _ _ ∧ _) ∧ Shp.lims _ _›).1.1; have g3 := (‹(_ = _ ++ putF 32782 2 ∧ _) ∧ Shp.lims _ _›).1.1; exact rb_go r4 r1 (by assumption) s2 r3 g1 g2 (by first | exact .inl ⟨by assumption, rfl⟩ | exact .inr ⟨by assumption, rfl⟩) (.inr ⟨by assumption, rfl, by rw [← g3]; exact (by assumption : (_ = _ ++ putF (IntKind.u64.wrap _) 2 ∧ _) ∧ _).1.1⟩) q8 qy900002)
end Go.Proofs.Ytkeefgiajogkkaa.V
