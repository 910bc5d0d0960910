/- Contracts: a side of a box as selectors, narrowed lists (negotiate). -/
import Derived.Test.YtiinlanpinanhaaVS
import Derived.Test.YtiinlanpinanhaaVf
set_option linter.unusedVariables false
set_option linter.unusedSimpArgs false
namespace Go.Proofs.Ytiinlanpinanhaa.V
open Go.RowKit
set_option maxHeartbeats 8000000
set_option maxRecDepth 100000
abbrev itE : Shp := .int .i64
abbrev prtE : Shp := .st [.int .i64, .int .i64]
abbrev PrtT : Type := Int × Int × Unit
/-- A box: addresses of both sides, protocols, ports. -/
abbrev boxE : Shp := .st [adrE, adrE, adrE, adrE, .int .i64, .int .i64, prtE, prtE]
abbrev BoxT : Type := AdrT × AdrT × AdrT × AdrT × Int × Int × PrtT × PrtT × Unit
/-- Numbers from a on, n of them. -/
def upF (a : Int) : Nat → List Int
  | 0 => []
  | n + 1 => upF a n ++ [a + n]
theorem upF_length (a : Int) (n : Nat) : (upF a n).length = n := by
  induction n with
  | zero => rfl
  | succ n ih => simp [upF, ih]
def protosF (lo hi : Int) : List Int :=
  if lo = 0 ∧ hi = 255 then [0] else if 8 < (hi + 1 - max lo 1).toNat then [] else upF (max lo 1) (hi + 1 - max lo 1).toNat
theorem prs_fn : hasFn Try.prog 85 := ⟨_, Try.func85, by rfl, by rfl⟩
abbrev prsPre : Shp.Ds [boxE] → Prop := fun x => 0 ≤ x.1.2.2.2.2.1 ∧ x.1.2.2.2.2.1 ≤ 1000 ∧ x.1.2.2.2.2.2.1 ≤ 1000
abbrev prsSp : Spec := fnSpec [boxE] [.sl (.int .i64)] [3] prsPre fun x y => y.1 = protosF x.1.2.2.2.2.1 x.1.2.2.2.2.2.1
theorem protos_all : protosF 0 255 = [0] := rfl
theorem protos_no {lo hi : Int} (h0 : ¬ (lo = 0 ∧ hi = 255)) (h : 8 < (hi + 1 - max lo 1).toNat) : protosF lo hi = [] := by
  unfold protosF; rw [if_neg h0, if_pos h]
theorem protos_up {lo hi : Int} (h0 : ¬ (lo = 0 ∧ hi = 255)) (h : ¬ 8 < (hi + 1 - max lo 1).toNat) : protosF lo hi = upF (max lo 1) (hi + 1 - max lo 1).toNat := by
  unfold protosF; rw [if_neg h0, if_neg h]
theorem prs_sp {E : Env} (hE : E.ok) : SpecOk Try.prog E 85 prsSp := by
  refine spec_of_vc (C := noC) prs_fn Try.func85 (by kernel_rfl) noC_cx (fun x hl hx => ?_) hE
  obtain ⟨⟨⟨f1, h1, l1, u1⟩, ⟨f2, h2, l2, u2⟩, ⟨f3, h3, l3, u3⟩, ⟨f4, h4, l4, u4⟩, plo, phi, ⟨a1, a2, u5⟩, ⟨b1, b2, u6⟩, u7⟩, u8⟩ := x
  obtain ⟨hq1, hq2, hq3⟩ := hx
  have hq1 : 0 ≤ plo := hq1
  have hq2 : plo ≤ 1000 := hq2
  have hq3 : phi ≤ 1000 := hq3
  cbv
  (repeat' (first | ((with_reducible refine And.intro (fun h => ?_) (fun h => ?_)) <;> (first | with_reducible exact (tf h (by assumption)).elim | with_reducible exact (tf (by assumption) h).elim | cbv)) | ((with_reducible first | refine Cb.mk ?_ | refine Lz.mk ?_ | refine AllT.mk (fun x hx => ?_)); cbv) | ((with_reducible refine Ob.mk (fun _ => ?_) ?_); rotate_left 1) | (with_reducible first | refine Mg.mk (Exists.intro ?_ (And.intro ?_ ?_)) | rfl | refine Fin.mk ?_ | exact True.intro | refine And.intro ?_ ?_)))
  with_reducible refine join_hv (rangeN 5 8) [] [] [] (fun z b t y => ¬ (plo = 0 ∧ phi = 255)) (by cbv) ?_ ?_
  · intro R1 hR1
    cbv
    (repeat' (first | ((with_reducible refine And.intro (fun h => ?_) (fun h => ?_)) <;> (first | with_reducible exact (tf h (by assumption)).elim | with_reducible exact (tf (by assumption) h).elim | cbv)) | ((with_reducible first | refine Cb.mk ?_ | refine Lz.mk ?_ | refine JoinT.left ?_ | refine AllT.mk (fun x hx => ?_)); cbv) | ((with_reducible refine Ob.mk (fun _ => ?_) ?_); rotate_left 1) | (with_reducible first | refine Mg.mk (Exists.intro ?_ (And.intro ?_ ?_)) | rfl | refine Fin.mk ?_ | exact True.intro | refine And.intro ?_ ?_)))
    all_goals first | (with_reducible show (∃ _, unr _ _ _ _ _ _); skip) | (with_reducible show Goes _ _ _ _; skip) | (with_reducible show JoinT _ _ _ _ _ _; skip) | (first | ((try dsimp only [Shp.D, Shp.Ds, Shp.dflt] at *); simp only [vem, veq, ne_eq, cmpI, arI, dvI, shI, SV.den, obLt, elemAt, obApp, partL, obPart, lowD, highD, mxOk, convL_self, zerosB, List.length_replicate, vln] at *; (try dsimp only [Shp.D, Shp.Ds, Shp.dflt, Shp.dflts] at *); done) | ((try dsimp only [Shp.D, Shp.Ds, Shp.dflt] at *); simp only [vem, veq, ne_eq, cmpI, arI, dvI, shI, SV.den, obLt, elemAt, obApp, partL, obPart, lowD, highD, mxOk, convL_self, zerosB, List.length_replicate, vln] at *; (try dsimp only [Shp.D, Shp.Ds, Shp.dflt, Shp.dflts] at *); omega) | ((try dsimp only [Shp.D, Shp.Ds, Shp.dflt] at *); simp only [vem, veq, ne_eq, cmpI, arI, dvI, shI, SV.den, obLt, elemAt, obApp, partL, obPart, lowD, highD, mxOk, convL_self, zerosB, List.length_replicate, vln] at *; (try dsimp only [Shp.D, Shp.Ds, Shp.dflt, Shp.dflts] at *); subst_vars; rfl))
    all_goals ((with_reducible refine hR1 _ ?_ (fun zq bq tq yq hUq => ?_)); (focus (refine EndOk.mk (by cbv) (by cbv) (by cbv; repeat' (first | exact True.intro | exact rfl | with_reducible refine And.intro ?_ ?_)) (by cbv; repeat' (first | exact True.intro | exact rfl | with_reducible refine And.intro ?_ ?_)) (by cbv; repeat' (first | exact True.intro | exact rfl | with_reducible refine And.intro ?_ ?_)))); (clear hUq hR1); (try dsimp only [Shp.D, Shp.Ds, Shp.dflt] at *); (try simp only [vem, veq, ne_eq, cmpI, arI, dvI, shI, SV.den, elemAt, convL_self] at *); (try dsimp only [Shp.D, Shp.Ds, Shp.dflt, Shp.dflts] at *))
    all_goals omega
  intro z1 b1 t1 u1 y1 hP1
  cbv
  (repeat' (first | ((with_reducible refine And.intro (fun h => ?_) (fun h => ?_)) <;> (first | with_reducible exact (tf h (by assumption)).elim | with_reducible exact (tf (by assumption) h).elim | cbv)) | ((with_reducible first | refine Cb.mk ?_ | refine Lz.mk ?_ | refine JoinT.left ?_ | refine AllT.mk (fun x hx => ?_)); cbv) | ((with_reducible refine Ob.mk (fun _ => ?_) ?_); rotate_left 1) | (with_reducible first | refine Mg.mk (Exists.intro ?_ (And.intro ?_ ?_)) | rfl | refine Fin.mk ?_ | exact True.intro | refine And.intro ?_ ?_)))
  with_reducible refine loop_hv [(3, 9000, 3, itE)] (rangeN 17 14) [] [9000] (fun z b t y => max plo 1 ≤ z 4 ∧ (z 4 ≤ phi + 1 ∨ z 4 = max plo 1) ∧ y 9000 itE = upF (max plo 1) (z 4 - max plo 1).toNat) (fun z b t y => (phi + 1 - z 4).toNat) (by cbv) (by cbv) ?_ ?_ (fun z2 b2 t2 u2 y2 R2 hP2 hR2 => ?_)
  · refine EndOk.mk (by cbv) (by cbv) (by cbv; repeat' (first | exact True.intro | exact rfl | with_reducible refine And.intro ?_ ?_)) (by cbv; repeat' (first | exact True.intro | exact rfl | with_reducible refine And.intro ?_ ?_)) (by cbv; repeat' (first | exact True.intro | exact rfl | with_reducible refine And.intro ?_ ?_))
  · intro zq bq tq yq hUq
    have q4 := hUq.z 4
    cbv at q4
    replace q4 := q4.eq
    simp only [atI, vem, veq, ne_eq, cmpI, arI, dvI, shI, SV.den] at q4
    have qy9000 := hUq.y 9000 (itE)
    cbv at qy9000
    replace qy9000 := qy9000.eq
    simp only [atY, convL_self, vem, veq, ne_eq, cmpI, arI, dvI, shI, SV.den] at qy9000
    clear hUq
    try dsimp only [Shp.D, Shp.Ds, Shp.dflt] at *
    try simp only [vem, veq, ne_eq, cmpI, arI, dvI, shI, SV.den, convL_self] at *
    rw [← q4, ← qy9000]
    refine ⟨by omega, by omega, ?_⟩
    rw [show ((if plo < 1 then 1 else plo) - max plo 1).toNat = 0 by omega]
    rfl
  obtain ⟨p1, p2, p3⟩ := hP2
  have p4 : (y2 9000 itE).length = (z2 4 - max plo 1).toNat := by rw [p3, upF_length]
  cbv
  (repeat' (first | ((with_reducible refine And.intro (fun h => ?_) (fun h => ?_)) <;> (first | with_reducible exact (tf h (by assumption)).elim | with_reducible exact (tf (by assumption) h).elim | cbv)) | ((with_reducible first | refine Cb.mk ?_ | refine Lz.mk ?_ | refine JoinT.left ?_ | refine AllT.mk (fun x hx => ?_)); cbv) | ((with_reducible refine Ob.mk (fun _ => ?_) ?_); rotate_left 1) | (with_reducible first | refine Mg.mk (Exists.intro ?_ (And.intro ?_ ?_)) | rfl | refine Fin.mk ?_ | exact True.intro | refine And.intro ?_ ?_)))
  all_goals first | (with_reducible show (∃ _, unr _ _ _ _ _ _); skip) | (with_reducible show Goes _ _ _ _; skip) | (with_reducible show JoinT _ _ _ _ _ _; skip) | (first | ((try dsimp only [Shp.D, Shp.Ds, Shp.dflt] at *); simp only [vem, veq, ne_eq, cmpI, arI, dvI, shI, SV.den, obLt, elemAt, obApp, partL, obPart, lowD, highD, mxOk, convL_self, zerosB, List.length_replicate, vln] at *; (try dsimp only [Shp.D, Shp.Ds, Shp.dflt, Shp.dflts] at *); done) | ((try dsimp only [Shp.D, Shp.Ds, Shp.dflt] at *); simp only [vem, veq, ne_eq, cmpI, arI, dvI, shI, SV.den, obLt, elemAt, obApp, partL, obPart, lowD, highD, mxOk, convL_self, zerosB, List.length_replicate, vln] at *; (try dsimp only [Shp.D, Shp.Ds, Shp.dflt, Shp.dflts] at *); omega) | ((try dsimp only [Shp.D, Shp.Ds, Shp.dflt] at *); simp only [vem, veq, ne_eq, cmpI, arI, dvI, shI, SV.den, obLt, elemAt, obApp, partL, obPart, lowD, highD, mxOk, convL_self, zerosB, List.length_replicate, vln] at *; (try dsimp only [Shp.D, Shp.Ds, Shp.dflt, Shp.dflts] at *); rw [protos_no hP1 (by omega)]) | ((try dsimp only [Shp.D, Shp.Ds, Shp.dflt] at *); simp only [vem, veq, ne_eq, cmpI, arI, dvI, shI, SV.den, obLt, elemAt, obApp, partL, obPart, lowD, highD, mxOk, convL_self, zerosB, List.length_replicate, vln] at *; (try dsimp only [Shp.D, Shp.Ds, Shp.dflt, Shp.dflts] at *); rw [protos_up hP1 (by omega), p3, show (z2 4 - max plo 1).toNat = (phi + 1 - max plo 1).toNat by omega]))
  with_reducible refine hR2 _ ?_ (fun zq bq tq yq hUq => ?_)
  · refine EndOk.mk (by cbv) (by cbv) (by cbv; repeat' (first | exact True.intro | exact rfl | with_reducible refine And.intro ?_ ?_)) (by cbv; repeat' (first | exact True.intro | exact rfl | with_reducible refine And.intro ?_ ?_)) (by cbv; repeat' (first | exact True.intro | exact rfl | with_reducible refine And.intro ?_ ?_))
  have q4 := hUq.z 4
  cbv at q4
  replace q4 := q4.eq
  simp only [atI, vem, veq, ne_eq, cmpI, arI, dvI, shI, SV.den] at q4
  have qy9000 := hUq.y 9000 (itE)
  cbv at qy9000
  replace qy9000 := qy9000.eq
  simp only [atY, convL_self, vem, veq, ne_eq, cmpI, arI, dvI, shI, SV.den] at qy9000
  clear hUq hR2
  try dsimp only [Shp.D, Shp.Ds, Shp.dflt] at *
  try simp only [vem, veq, ne_eq, cmpI, arI, dvI, shI, SV.den, elemAt, convL_self] at *
  try dsimp only [Shp.D, Shp.Ds, Shp.dflt, Shp.dflts] at *
  refine ⟨⟨by omega, by omega, ?_⟩, by omega⟩
  rw [← qy9000, p3, show (zq 4 - max plo 1).toNat = (z2 4 - max plo 1).toNat + 1 by omega, upF, show max plo 1 + ((z2 4 - max plo 1).toNat : Int) = z2 4 by omega]
/-! Ports. -/
abbrev prtD0 : PrtT := (0, 0, ())
def portsF (p : PrtT) : List PrtT :=
  if p.1 = -1 ∧ p.2.1 = 65535 then [(0, 65535, ())]
  else (if p.1 = -1 then [(65535, 0, ())] else []) ++ (if (if 0 > p.1 then 0 else p.1) > p.2.1 then [] else if (if 0 > p.1 then 0 else p.1) = 0 ∧ p.2.1 = 65535 then [(0, 0, ()), (1, 65535, ())] else [((if 0 > p.1 then 0 else p.1), p.2.1, ())])
theorem portsF_length (p : PrtT) : (portsF p).length ≤ 3 := by
  unfold portsF
  repeat' split
  all_goals simp
theorem pts_fn : hasFn Try.prog 86 := ⟨_, Try.func86, by rfl, by rfl⟩
abbrev ptsSp : Spec := fnSpec [prtE] [.sl prtE] [76] (fun _ => True) fun x y => y.1 = portsF x.1
theorem pts_sp {E : Env} (hE : E.ok) : SpecOk Try.prog E 86 ptsSp := by
  refine spec_of_vc (C := noC) pts_fn Try.func86 (by kernel_rfl) noC_cx (fun x hl hx => ?_) hE
  obtain ⟨⟨p1, p2, u1⟩, u2⟩ := x
  cbv
  (repeat' (first | ((with_reducible refine And.intro (fun h => ?_) (fun h => ?_)) <;> (first | with_reducible exact (tf h (by assumption)).elim | with_reducible exact (tf (by assumption) h).elim | cbv)) | ((with_reducible first | refine Cb.mk ?_ | refine Lz.mk ?_ | refine JoinT.left ?_ | refine AllT.mk (fun x hx => ?_)); cbv) | ((with_reducible refine Ob.mk (fun _ => ?_) ?_); rotate_left 1) | (with_reducible first | refine Mg.mk (Exists.intro ?_ (And.intro ?_ ?_)) | rfl | refine Fin.mk ?_ | exact True.intro | refine And.intro ?_ ?_)))
  all_goals first | (with_reducible show (∃ _, unr _ _ _ _ _ _); skip) | (with_reducible show Goes _ _ _ _; skip) | (with_reducible show JoinT _ _ _ _ _ _; skip) | (first | ((try dsimp only [Shp.D, Shp.Ds, Shp.dflt] at *); simp only [vem, veq, ne_eq, cmpI, arI, dvI, shI, SV.den, obLt, elemAt, obApp, partL, obPart, lowD, highD, mxOk, convL_self, zerosB, List.length_replicate, vln] at *; (try dsimp only [Shp.D, Shp.Ds, Shp.dflt, Shp.dflts] at *); done) | ((try dsimp only [Shp.D, Shp.Ds, Shp.dflt] at *); simp only [vem, veq, ne_eq, cmpI, arI, dvI, shI, SV.den, obLt, elemAt, obApp, partL, obPart, lowD, highD, mxOk, convL_self, zerosB, List.length_replicate, vln] at *; (try dsimp only [Shp.D, Shp.Ds, Shp.dflt, Shp.dflts] at *); omega) | ((try dsimp only [Shp.D, Shp.Ds, Shp.dflt] at *); simp only [vem, veq, ne_eq, cmpI, arI, dvI, shI, SV.den, obLt, elemAt, obApp, partL, obPart, lowD, highD, mxOk, convL_self, zerosB, List.length_replicate, vln] at *; (try dsimp only [Shp.D, Shp.Ds, Shp.dflt, Shp.dflts] at *); unfold portsF; simp_all; done) | ((try dsimp only [Shp.D, Shp.Ds, Shp.dflt] at *); simp only [vem, veq, ne_eq, cmpI, arI, dvI, shI, SV.den, obLt, elemAt, obApp, partL, obPart, lowD, highD, mxOk, convL_self, zerosB, List.length_replicate, vln] at *; (try dsimp only [Shp.D, Shp.Ds, Shp.dflt, Shp.dflts] at *); unfold portsF; simp_all; omega))
/-! A side of a box. -/
abbrev cutE : Shp := .st [selE]
theorem fm_take {α β : Type} (f : α → List β) (l : List α) (d : α) {k : Nat} (h : k < l.length) : (l.take (k + 1)).flatMap f = (l.take k).flatMap f ++ f (l.getD k d) := by
  rw [List.take_add_one, List.getElem?_eq_getElem h, List.flatMap_append, List.getD_eq_getElem?_getD, List.getElem?_eq_getElem h]
  simp
theorem map_take1 {α β : Type} (f : α → β) (l : List α) (d : α) {k : Nat} (h : k < l.length) : (l.take (k + 1)).map f = (l.take k).map f ++ [f (l.getD k d)] := by
  rw [List.take_add_one, List.getElem?_eq_getElem h, List.map_append, List.getD_eq_getElem?_getD, List.getElem?_eq_getElem h]
  simp
abbrev cprFn : Spec := fnFn [cutE, .int .i64] [cutE] (fun _ => True) fun x => (((x.2.1, x.1.1.2.1, x.1.1.2.2.1, x.1.1.2.2.2.1, x.1.1.2.2.2.2.1, ()), ()), ())
theorem cpr_fn : hasFn Try.prog 87 := ⟨_, Try.func87, by rfl, by rfl⟩
theorem cpr_sp {E : Env} (hE : E.ok) : SpecOk Try.prog E 87 cprFn := by
  refine fnFn_of (post := fun (x : Shp.Ds [cutE, .int .i64]) (y : Shp.Ds [cutE]) => y = (((x.2.1, x.1.1.2.1, x.1.1.2.2.1, x.1.1.2.2.2.1, x.1.1.2.2.2.2.1, ()), ()), ())) ?_ fun x y h => h
  refine spec_of_vc (C := noC) cpr_fn Try.func87 (by kernel_rfl) noC_cx (fun x hl hx => ?_) hE
  obtain ⟨⟨⟨p, a, b, ⟨f, h, l, u⟩, ⟨f', h', l', u'⟩, u1⟩, u3⟩, q, u2⟩ := x
  cbv
  (repeat' (first | ((with_reducible refine And.intro (fun h => ?_) (fun h => ?_)) <;> (first | with_reducible exact (tf h (by assumption)).elim | with_reducible exact (tf (by assumption) h).elim | cbv)) | ((with_reducible first | refine Cb.mk ?_ | refine Lz.mk ?_ | refine JoinT.left ?_ | refine AllT.mk (fun x hx => ?_)); cbv) | ((with_reducible refine Ob.mk (fun _ => ?_) ?_); rotate_left 1) | (with_reducible first | refine Mg.mk (Exists.intro ?_ (And.intro ?_ ?_)) | rfl | refine Fin.mk ?_ | exact True.intro | refine And.intro ?_ ?_)))
  all_goals first | (with_reducible show (∃ _, unr _ _ _ _ _ _); skip) | (with_reducible show Goes _ _ _ _; skip) | (with_reducible show JoinT _ _ _ _ _ _; skip) | (first | ((try dsimp only [Shp.D, Shp.Ds, Shp.dflt] at *); simp only [vem, veq, ne_eq, cmpI, arI, dvI, shI, SV.den, obLt, elemAt, obApp, partL, obPart, lowD, highD, mxOk, convL_self, zerosB, List.length_replicate, vln] at *; (try dsimp only [Shp.D, Shp.Ds, Shp.dflt, Shp.dflts] at *); done) | ((try dsimp only [Shp.D, Shp.Ds, Shp.dflt] at *); simp only [vem, veq, ne_eq, cmpI, arI, dvI, shI, SV.den, obLt, elemAt, obApp, partL, obPart, lowD, highD, mxOk, convL_self, zerosB, List.length_replicate, vln] at *; (try dsimp only [Shp.D, Shp.Ds, Shp.dflt, Shp.dflts] at *); rfl))
abbrev cpoFn : Spec := fnFn [cutE, prtE] [cutE] (fun _ => True) fun x => (((x.1.1.1, x.2.1.1, x.2.1.2.1, x.1.1.2.2.2.1, x.1.1.2.2.2.2.1, ()), ()), ())
theorem cpo_fn : hasFn Try.prog 88 := ⟨_, Try.func88, by rfl, by rfl⟩
theorem cpo_sp {E : Env} (hE : E.ok) : SpecOk Try.prog E 88 cpoFn := by
  refine fnFn_of (post := fun (x : Shp.Ds [cutE, prtE]) (y : Shp.Ds [cutE]) => y = (((x.1.1.1, x.2.1.1, x.2.1.2.1, x.1.1.2.2.2.1, x.1.1.2.2.2.2.1, ()), ()), ())) ?_ fun x y h => h
  refine spec_of_vc (C := noC) cpo_fn Try.func88 (by kernel_rfl) noC_cx (fun x hl hx => ?_) hE
  obtain ⟨⟨⟨p, a, b, ⟨f, h, l, u⟩, ⟨f', h', l', u'⟩, u1⟩, u3⟩, ⟨q, r, u4⟩, u2⟩ := x
  cbv
  (repeat' (first | ((with_reducible refine And.intro (fun h => ?_) (fun h => ?_)) <;> (first | with_reducible exact (tf h (by assumption)).elim | with_reducible exact (tf (by assumption) h).elim | cbv)) | ((with_reducible first | refine Cb.mk ?_ | refine Lz.mk ?_ | refine JoinT.left ?_ | refine AllT.mk (fun x hx => ?_)); cbv) | ((with_reducible refine Ob.mk (fun _ => ?_) ?_); rotate_left 1) | (with_reducible first | refine Mg.mk (Exists.intro ?_ (And.intro ?_ ?_)) | rfl | refine Fin.mk ?_ | exact True.intro | refine And.intro ?_ ?_)))
  all_goals first | (with_reducible show (∃ _, unr _ _ _ _ _ _); skip) | (with_reducible show Goes _ _ _ _; skip) | (with_reducible show JoinT _ _ _ _ _ _; skip) | (first | ((try dsimp only [Shp.D, Shp.Ds, Shp.dflt] at *); simp only [vem, veq, ne_eq, cmpI, arI, dvI, shI, SV.den, obLt, elemAt, obApp, partL, obPart, lowD, highD, mxOk, convL_self, zerosB, List.length_replicate, vln] at *; (try dsimp only [Shp.D, Shp.Ds, Shp.dflt, Shp.dflts] at *); done) | ((try dsimp only [Shp.D, Shp.Ds, Shp.dflt] at *); simp only [vem, veq, ne_eq, cmpI, arI, dvI, shI, SV.den, obLt, elemAt, obApp, partL, obPart, lowD, highD, mxOk, convL_self, zerosB, List.length_replicate, vln] at *; (try dsimp only [Shp.D, Shp.Ds, Shp.dflt, Shp.dflts] at *); rfl))
def sideL (lo hi : AdrT) (ps : List Int) (qs : List PrtT) : List SelT := ps.flatMap fun p => qs.map fun q => (p, q.1, q.2.1, lo, hi, ())
def sideF (b : BoxT) (out : Bool) : List SelT := match out with
  | true => sideL b.1 b.2.1 (protosF b.2.2.2.2.1 b.2.2.2.2.2.1) (portsF b.2.2.2.2.2.2.1)
  | false => sideL b.2.2.1 b.2.2.2.1 (protosF b.2.2.2.2.1 b.2.2.2.2.2.1) (portsF b.2.2.2.2.2.2.2.1)
theorem protosF_length (lo hi : Int) : (protosF lo hi).length ≤ 8 := by
  unfold protosF
  split
  · simp
  · split
    · simp
    · rw [upF_length]; omega
theorem sideL_length (lo hi : AdrT) (ps : List Int) (p : PrtT) : (sideL lo hi ps (portsF p)).length ≤ 3 * ps.length := by
  unfold sideL
  induction ps with
  | nil => simp
  | cons x l ih =>
    have := portsF_length p
    simp only [List.flatMap_cons, List.length_append, List.length_map, List.length_cons]
    omega
theorem sideF_length (b : BoxT) (out : Bool) : (sideF b out).length ≤ 24 := by
  have := protosF_length b.2.2.2.2.1 b.2.2.2.2.2.1
  cases out
  · have h := sideL_length b.2.2.1 b.2.2.2.1 (protosF b.2.2.2.2.1 b.2.2.2.2.2.1) b.2.2.2.2.2.2.2.1
    unfold sideF; simp only; omega
  · have h := sideL_length b.1 b.2.1 (protosF b.2.2.2.2.1 b.2.2.2.2.2.1) b.2.2.2.2.2.2.1
    unfold sideF; simp only; omega
abbrev sdePre : Shp.Ds [boxE, .bool] → Prop := fun x => 0 ≤ x.1.2.2.2.2.1 ∧ x.1.2.2.2.2.1 ≤ 1000 ∧ x.1.2.2.2.2.2.1 ≤ 1000
abbrev sdeSp : Spec := fnSpec [boxE, .bool] [.sl selE] [30] sdePre fun x y => y.1 = sideF x.1 x.2.1
def sdeC_t : SpecT := nd0 87 (nd0 86 (lf0 85 (prsSp)) (lf0 86 (ptsSp))) (nd0 88 (lf0 87 (cprFn)) (lf0 88 (cpoFn)))
def sdeC : Cx := ⟨tt, qt, bt, st, sdeC_t, 0, 1000000000000000, fun _ => none, false, CxE.no⟩
theorem sdeC_si {E : Env} (h : E.ok) : SpecsOk Try.prog E (CxE.no) sdeC_t (fun _ => none) := ⟨(nd0_ok (nd0_ok (lf0_ok (prs_sp h)) (lf0_ok (pts_sp h))) (nd0_ok (lf0_ok (cpr_sp h)) (lf0_ok (cpo_sp h)))), noI_ok _ _ _⟩
theorem sdeC_x {E : Env} (h : E.ok) : CxEOk Try.prog E (CxE.no) := CxE.no_ok _ _
theorem sdeC_cx (E : Env) (h : E.ok) (h1 : E.lo = 0) (h2 : E.hi = 1000000000000000) : Cx.ok sdeC Try.prog E := ⟨tt_ok, qt_ok, bt_ok, sdeC_si h, h, h1, h2, mixed_ok, sdeC_x h⟩
theorem sdeC_from (lo hi : Nat) (E : Env) (h : E.ok) (h1 : E.lo = lo) (h2 : E.hi = hi) : Cx.ok (Cx.from sdeC lo hi) Try.prog E := ⟨tt_ok, qt_ok, bt_ok, sdeC_si h, h, h1, h2, mixed_ok, sdeC_x h⟩
theorem sde_fn : hasFn Try.prog 47 := ⟨_, Try.func47, by rfl, by rfl⟩
theorem sde_sp {E : Env} (hE : E.ok) : SpecOk Try.prog E 47 sdeSp := by
  refine spec_of_vc (C := sdeC) sde_fn Try.func47 (by kernel_rfl) sdeC_cx (fun x hl hx => ?_) hE
  obtain ⟨⟨⟨f1, h1, l1, _⟩, ⟨f2, h2, l2, _⟩, ⟨f3, h3, l3, _⟩, ⟨f4, h4, l4, _⟩, plo, phi, ⟨a1, a2, _⟩, ⟨c1, c2, _⟩, _⟩, out, _⟩ := x
  obtain ⟨hq1, hq2, hq3⟩ := hx
  have hq1 : 0 ≤ plo := hq1
  have hq2 : plo ≤ 1000 := hq2
  have hq3 : phi ≤ 1000 := hq3
  cbv
  (repeat' (first | ((with_reducible refine And.intro (fun h => ?_) (fun h => ?_)) <;> (first | with_reducible exact (tf h (by assumption)).elim | with_reducible exact (tf (by assumption) h).elim | cbv)) | ((with_reducible show JoinT (fun s K => vc _ (Code.region _ _ true) s K) _ _ _ _ _); (with_reducible apply JoinT.mg2); (focus (cbv; (repeat' (first | ((with_reducible refine And.intro (fun h => ?_) (fun h => ?_)) <;> (first | with_reducible exact (tf h (by assumption)).elim | with_reducible exact (tf (by assumption) h).elim | cbv)) | ((with_reducible first | refine Cb.mk ?_ | refine Lz.mk ?_ | refine JoinT.left ?_ | refine AllT.mk (fun x hx => ?_)); cbv) | ((with_reducible refine Ob.mk (fun _ => ?_) ?_); rotate_left 1) | (with_reducible first | refine Mg.mk (Exists.intro ?_ (And.intro ?_ ?_)) | rfl | refine Fin.mk ?_ | exact True.intro | refine And.intro ?_ ?_))); (all_goals (try (have du : Unit := (); have dv : Unit := (); first | exact Goes.self (Ex2.mk ⟨dv, du, trivial, trivial, rfl⟩) | exact Goes.self (Ex2.mk ⟨x, du, hx, trivial, rfl⟩) | (rename_i xa hxa; exact Goes.self (Ex2.mk ⟨xa, x, hxa, hx, rfl⟩))))); (all_goals (fail_if_success (with_reducible first | show Goes _ _ _ _ | show (∃ _, unr _ _ _ _ _ _))))))) | ((with_reducible first | refine Cb.mk ?_ | refine Lz.mk ?_ | refine JoinT.left ?_ | refine AllT.mk (fun x hx => ?_)); cbv) | ((with_reducible refine Ob.mk (fun _ => ?_) ?_); rotate_left 1) | (with_reducible first | refine Mg.mk (Exists.intro ?_ (And.intro ?_ ?_)) | rfl | refine Fin.mk ?_ | exact True.intro | refine And.intro ?_ ?_)))
  all_goals first | (with_reducible show (∃ _, unr _ _ _ _ _ _); skip) | (with_reducible show Goes _ _ _ _; skip) | (with_reducible show JoinT _ _ _ _ _ _; skip) | (first | ((try dsimp only [Shp.D, Shp.Ds, Shp.dflt] at *); simp only [vem, veq, ne_eq, cmpI, arI, dvI, shI, SV.den, obLt, elemAt, obApp, partL, obPart, lowD, highD, mxOk, convL_self, zerosB, List.length_replicate, vln] at *; (try dsimp only [Shp.D, Shp.Ds, Shp.dflt, Shp.dflts] at *); done) | ((try dsimp only [Shp.D, Shp.Ds, Shp.dflt] at *); simp only [vem, veq, ne_eq, cmpI, arI, dvI, shI, SV.den, obLt, elemAt, obApp, partL, obPart, lowD, highD, mxOk, convL_self, zerosB, List.length_replicate, vln] at *; (try dsimp only [Shp.D, Shp.Ds, Shp.dflt, Shp.dflts] at *); omega))
  · have hx0 : x.1 = protosF plo phi := by simpa only [den_t] using hx.1
    have hout : out = true := by simpa only [bden_t] using h
    have hpl := protosF_length plo phi
    obtain ⟨xp, hxp⟩ : ∃ xp, xp = x := ⟨_, rfl⟩
    rw [← hxp] at hx0
    have hxl : xp.1.length ≤ 8 := by rw [hx0]; exact hpl
    with_reducible refine loop_hv [(7, 900000, 30, selE)] (9 :: 11 :: rangeN 33 21) [] [900000] (fun z b t y => 0 ≤ z 32 ∧ z 32 ≤ (xp.1.length : Int) ∧ y 900000 selE = sideL (f1, h1, l1, ()) (f2, h2, l2, ()) (xp.1.take (z 32).toNat) (portsF (a1, a2, ()))) (fun z b t y => ((xp.1.length : Int) - z 32).toNat) (by cbv) (by cbv) ?_ ?_ (fun z1 b1 t1 u1 y1 R1 hP1 hR1 => ?_)
    · refine EndOk.mk (by cbv) (by cbv) (by cbv; repeat' (first | exact True.intro | exact rfl | with_reducible refine And.intro ?_ ?_)) (by cbv; repeat' (first | exact True.intro | exact rfl | with_reducible refine And.intro ?_ ?_)) (by cbv; repeat' (first | exact True.intro | exact rfl | with_reducible refine And.intro ?_ ?_))
    · intro zq bq tq yq hUq
      have q32 := hUq.z 32
      cbv at q32
      replace q32 := q32.eq
      simp only [atI, vem, veq, ne_eq, cmpI, arI, dvI, shI, SV.den] at q32
      have qy900000 := hUq.y 900000 (selE)
      cbv at qy900000
      replace qy900000 := qy900000.eq
      simp only [atY, convL_self, vem, veq, ne_eq, cmpI, arI, dvI, shI, SV.den] at qy900000
      clear hUq
      try dsimp only [Shp.D, Shp.Ds, Shp.dflt] at *
      try simp only [vem, veq, ne_eq, cmpI, arI, dvI, shI, SV.den, convL_self] at *
      rw [← q32, ← qy900000]
      exact ⟨by omega, by omega, rfl⟩
    obtain ⟨p1, p2, p3⟩ := hP1
    have p4 : (y1 900000 selE).length ≤ 24 := by
      rw [p3]
      refine Nat.le_trans (sideL_length _ _ _ _) ?_
      rw [hx0, List.length_take]
      have := Nat.min_le_right (z1 32).toNat (protosF plo phi).length
      omega
    subst hxp
    cbv
    (repeat' (first | ((with_reducible refine And.intro (fun h => ?_) (fun h => ?_)) <;> (first | with_reducible exact (tf h (by assumption)).elim | with_reducible exact (tf (by assumption) h).elim | cbv)) | ((with_reducible show JoinT (fun s K => vc _ (Code.region _ _ true) s K) _ _ _ _ _); (with_reducible apply JoinT.mg2); (focus (cbv; (repeat' (first | ((with_reducible refine And.intro (fun h => ?_) (fun h => ?_)) <;> (first | with_reducible exact (tf h (by assumption)).elim | with_reducible exact (tf (by assumption) h).elim | cbv)) | ((with_reducible first | refine Cb.mk ?_ | refine Lz.mk ?_ | refine JoinT.left ?_ | refine AllT.mk (fun x hx => ?_)); cbv) | ((with_reducible refine Ob.mk (fun _ => ?_) ?_); rotate_left 1) | (with_reducible first | refine Mg.mk (Exists.intro ?_ (And.intro ?_ ?_)) | rfl | refine Fin.mk ?_ | exact True.intro | refine And.intro ?_ ?_))); (all_goals (try (have du : Unit := (); have dv : Unit := (); first | exact Goes.self (Ex2.mk ⟨dv, du, trivial, trivial, rfl⟩) | exact Goes.self (Ex2.mk ⟨x, du, hx, trivial, rfl⟩) | (rename_i xa hxa; exact Goes.self (Ex2.mk ⟨xa, x, hxa, hx, rfl⟩))))); (all_goals (fail_if_success (with_reducible first | show Goes _ _ _ _ | show (∃ _, unr _ _ _ _ _ _))))))) | ((with_reducible first | refine Cb.mk ?_ | refine Lz.mk ?_ | refine JoinT.left ?_ | refine AllT.mk (fun x hx => ?_)); cbv) | ((with_reducible refine Ob.mk (fun _ => ?_) ?_); rotate_left 1) | (with_reducible first | refine Mg.mk (Exists.intro ?_ (And.intro ?_ ?_)) | rfl | refine Fin.mk ?_ | exact True.intro | refine And.intro ?_ ?_)))
    all_goals first | (with_reducible show (∃ _, unr _ _ _ _ _ _); skip) | (with_reducible show Goes _ _ _ _; skip) | (with_reducible show JoinT _ _ _ _ _ _; skip) | (first | ((try dsimp only [Shp.D, Shp.Ds, Shp.dflt] at *); simp only [vem, veq, ne_eq, cmpI, arI, dvI, shI, SV.den, obLt, elemAt, obApp, partL, obPart, lowD, highD, mxOk, convL_self, zerosB, List.length_replicate, vln] at *; (try dsimp only [Shp.D, Shp.Ds, Shp.dflt, Shp.dflts] at *); done) | ((try dsimp only [Shp.D, Shp.Ds, Shp.dflt] at *); simp only [vem, veq, ne_eq, cmpI, arI, dvI, shI, SV.den, obLt, elemAt, obApp, partL, obPart, lowD, highD, mxOk, convL_self, zerosB, List.length_replicate, vln] at *; (try dsimp only [Shp.D, Shp.Ds, Shp.dflt, Shp.dflts] at *); omega) | ((try dsimp only [Shp.D, Shp.Ds, Shp.dflt] at *); simp only [vem, veq, ne_eq, cmpI, arI, dvI, shI, SV.den, obLt, elemAt, obApp, partL, obPart, lowD, highD, mxOk, convL_self, zerosB, List.length_replicate, vln] at *; (try dsimp only [Shp.D, Shp.Ds, Shp.dflt, Shp.dflts] at *); rw [p3, List.take_of_length_le (by omega), hx0, hout]; rfl))
    have hy0 : x.1 = portsF (a1, a2, ()) := by simpa only [den_t] using hx.1
    have hql := portsF_length (a1, a2, ())
    obtain ⟨xq, hxq⟩ : ∃ xq, xq = x := ⟨_, rfl⟩
    rw [← hxq] at hy0
    have hyl : xq.1.length ≤ 3 := by rw [hy0]; exact hql
    with_reducible refine loop_hv [] (11 :: rangeN 40 13) [] [900000] (fun z b t y => 0 ≤ z 39 ∧ z 39 ≤ (xq.1.length : Int) ∧ y 900000 selE = sideL (f1, h1, l1, ()) (f2, h2, l2, ()) (xp.1.take (z1 32).toNat) (portsF (a1, a2, ())) ++ (xq.1.take (z 39).toNat).map (fun q => ((xp.1.getD (z1 32).toNat 0, q.1, q.2.1, (f1, h1, l1, ()), (f2, h2, l2, ()), ()) : SelT))) (fun z b t y => ((xq.1.length : Int) - z 39).toNat) (by cbv) (by cbv) ?_ ?_ (fun z2 b2 t2 u2 y2 R2 hP2 hR2 => ?_)
    · refine EndOk.mk (by cbv) (by cbv) (by cbv; repeat' (first | exact True.intro | exact rfl | with_reducible refine And.intro ?_ ?_)) (by cbv; repeat' (first | exact True.intro | exact rfl | with_reducible refine And.intro ?_ ?_)) (by cbv; repeat' (first | exact True.intro | exact rfl | with_reducible refine And.intro ?_ ?_))
    · intro zq bq tq yq hUq
      have q39 := hUq.z 39
      cbv at q39
      replace q39 := q39.eq
      simp only [atI, vem, veq, ne_eq, cmpI, arI, dvI, shI, SV.den] at q39
      have qy900000 := hUq.y 900000 (selE)
      cbv at qy900000
      replace qy900000 := qy900000.eq
      simp only [atY, convL_self, vem, veq, ne_eq, cmpI, arI, dvI, shI, SV.den] at qy900000
      clear hUq
      try dsimp only [Shp.D, Shp.Ds, Shp.dflt] at *
      try simp only [vem, veq, ne_eq, cmpI, arI, dvI, shI, SV.den, convL_self] at *
      rw [← q39, ← qy900000]
      exact ⟨by omega, by omega, by rw [p3]; simp⟩
    obtain ⟨r1, r2, r3⟩ := hP2
    subst hxq
    have r4 : (y2 900000 selE).length ≤ 40 := by
      rw [r3, List.length_append, ← p3, List.length_map, List.length_take]
      have := Nat.min_le_right (z2 39).toNat xq.1.length
      rw [hy0] at this
      rw [hy0]
      omega
    cbv
    (repeat' (first | ((with_reducible refine And.intro (fun h => ?_) (fun h => ?_)) <;> (first | with_reducible exact (tf h (by assumption)).elim | with_reducible exact (tf (by assumption) h).elim | cbv)) | ((with_reducible show JoinT (fun s K => vc _ (Code.region _ _ true) s K) _ _ _ _ _); (with_reducible apply JoinT.mg2); (focus (cbv; (repeat' (first | ((with_reducible refine And.intro (fun h => ?_) (fun h => ?_)) <;> (first | with_reducible exact (tf h (by assumption)).elim | with_reducible exact (tf (by assumption) h).elim | cbv)) | ((with_reducible first | refine Cb.mk ?_ | refine Lz.mk ?_ | refine JoinT.left ?_ | refine AllT.mk (fun x hx => ?_)); cbv) | ((with_reducible refine Ob.mk (fun _ => ?_) ?_); rotate_left 1) | (with_reducible first | refine Mg.mk (Exists.intro ?_ (And.intro ?_ ?_)) | rfl | refine Fin.mk ?_ | exact True.intro | refine And.intro ?_ ?_))); (all_goals (try (have du : Unit := (); have dv : Unit := (); first | exact Goes.self (Ex2.mk ⟨dv, du, trivial, trivial, rfl⟩) | exact Goes.self (Ex2.mk ⟨x, du, hx, trivial, rfl⟩) | (rename_i xa hxa; exact Goes.self (Ex2.mk ⟨xa, x, hxa, hx, rfl⟩))))); (all_goals (fail_if_success (with_reducible first | show Goes _ _ _ _ | show (∃ _, unr _ _ _ _ _ _))))))) | ((with_reducible first | refine Cb.mk ?_ | refine Lz.mk ?_ | refine JoinT.left ?_ | refine AllT.mk (fun x hx => ?_)); cbv) | ((with_reducible refine Ob.mk (fun _ => ?_) ?_); rotate_left 1) | (with_reducible first | refine Mg.mk (Exists.intro ?_ (And.intro ?_ ?_)) | rfl | refine Fin.mk ?_ | exact True.intro | refine And.intro ?_ ?_)))
    all_goals first | (with_reducible show (∃ _, unr _ _ _ _ _ _); skip) | (with_reducible show Goes _ _ _ _; skip) | (with_reducible show JoinT _ _ _ _ _ _; skip) | (first | ((try dsimp only [Shp.D, Shp.Ds, Shp.dflt] at *); simp only [vem, veq, ne_eq, cmpI, arI, dvI, shI, SV.den, obLt, elemAt, obApp, partL, obPart, lowD, highD, mxOk, convL_self, zerosB, List.length_replicate, vln] at *; (try dsimp only [Shp.D, Shp.Ds, Shp.dflt, Shp.dflts] at *); done) | ((try dsimp only [Shp.D, Shp.Ds, Shp.dflt] at *); simp only [vem, veq, ne_eq, cmpI, arI, dvI, shI, SV.den, obLt, elemAt, obApp, partL, obPart, lowD, highD, mxOk, convL_self, zerosB, List.length_replicate, vln] at *; (try dsimp only [Shp.D, Shp.Ds, Shp.dflt, Shp.dflts] at *); omega))
    · with_reducible refine hR2 _ ?_ (fun zq bq tq yq hUq => ?_)
      · refine EndOk.mk (by cbv) (by cbv) (by cbv; repeat' (first | exact True.intro | exact rfl | with_reducible refine And.intro ?_ ?_)) (by cbv; repeat' (first | exact True.intro | exact rfl | with_reducible refine And.intro ?_ ?_)) (by cbv; repeat' (first | exact True.intro | exact rfl | with_reducible refine And.intro ?_ ?_))
      have q39 := hUq.z 39
      cbv at q39
      replace q39 := q39.eq
      simp only [atI, vem, veq, ne_eq, cmpI, arI, dvI, shI, SV.den] at q39
      have qy900000 := hUq.y 900000 (selE)
      cbv at qy900000
      replace qy900000 := qy900000.eq
      simp only [atY, convL_self, vem, veq, ne_eq, cmpI, arI, dvI, shI, SV.den] at qy900000
      clear hUq hR2
      try dsimp only [Shp.D, Shp.Ds, Shp.dflt] at *
      try simp only [vem, veq, ne_eq, cmpI, arI, dvI, shI, SV.den, elemAt, convL_self] at *
      try dsimp only [Shp.D, Shp.Ds, Shp.dflt, Shp.dflts] at *
      refine ⟨⟨by omega, by omega, ?_⟩, by omega⟩
      rw [← qy900000, r3, show (zq 39).toNat = (z2 39).toNat + 1 by omega, map_take1 _ xq.1 prtD0 (by omega), List.append_assoc]
    · with_reducible refine hR1 _ ?_ (fun zq bq tq yq hUq => ?_)
      · refine EndOk.mk (by cbv) (by cbv) (by cbv; repeat' (first | exact True.intro | exact rfl | with_reducible refine And.intro ?_ ?_)) (by cbv; repeat' (first | exact True.intro | exact rfl | with_reducible refine And.intro ?_ ?_)) (by cbv; repeat' (first | exact True.intro | exact rfl | with_reducible refine And.intro ?_ ?_))
      have q32 := hUq.z 32
      cbv at q32
      replace q32 := q32.eq
      simp only [atI, vem, veq, ne_eq, cmpI, arI, dvI, shI, SV.den] at q32
      have qy900000 := hUq.y 900000 (selE)
      cbv at qy900000
      replace qy900000 := qy900000.eq
      simp only [atY, convL_self, vem, veq, ne_eq, cmpI, arI, dvI, shI, SV.den] at qy900000
      clear hUq hR1
      try dsimp only [Shp.D, Shp.Ds, Shp.dflt] at *
      try simp only [vem, veq, ne_eq, cmpI, arI, dvI, shI, SV.den, elemAt, convL_self] at *
      try dsimp only [Shp.D, Shp.Ds, Shp.dflt, Shp.dflts] at *
      refine ⟨⟨by omega, by omega, ?_⟩, by omega⟩
      rw [← qy900000, r3, show (zq 32).toNat = (z1 32).toNat + 1 by omega, List.take_of_length_le (l := xq.1) (by omega), hy0]
      exact (fm_take (fun p => (portsF (a1, a2, ())).map fun q => ((p, q.1, q.2.1, (f1, h1, l1, ()), (f2, h2, l2, ()), ()) : SelT)) xp.1 (0 : Int) (k := (z1 32).toNat) (by omega)).symm
  · have hx0 : x.1 = protosF plo phi := by simpa only [den_t] using hx.1
    have hout : out = false := by simpa only [bden_t] using h
    have hpl := protosF_length plo phi
    obtain ⟨xp, hxp⟩ : ∃ xp, xp = x := ⟨_, rfl⟩
    rw [← hxp] at hx0
    have hxl : xp.1.length ≤ 8 := by rw [hx0]; exact hpl
    with_reducible refine loop_hv [(7, 900000, 30, selE)] (9 :: 11 :: rangeN 33 21) [] [900000] (fun z b t y => 0 ≤ z 32 ∧ z 32 ≤ (xp.1.length : Int) ∧ y 900000 selE = sideL (f3, h3, l3, ()) (f4, h4, l4, ()) (xp.1.take (z 32).toNat) (portsF (c1, c2, ()))) (fun z b t y => ((xp.1.length : Int) - z 32).toNat) (by cbv) (by cbv) ?_ ?_ (fun z1 b1 t1 u1 y1 R1 hP1 hR1 => ?_)
    · refine EndOk.mk (by cbv) (by cbv) (by cbv; repeat' (first | exact True.intro | exact rfl | with_reducible refine And.intro ?_ ?_)) (by cbv; repeat' (first | exact True.intro | exact rfl | with_reducible refine And.intro ?_ ?_)) (by cbv; repeat' (first | exact True.intro | exact rfl | with_reducible refine And.intro ?_ ?_))
    · intro zq bq tq yq hUq
      have q32 := hUq.z 32
      cbv at q32
      replace q32 := q32.eq
      simp only [atI, vem, veq, ne_eq, cmpI, arI, dvI, shI, SV.den] at q32
      have qy900000 := hUq.y 900000 (selE)
      cbv at qy900000
      replace qy900000 := qy900000.eq
      simp only [atY, convL_self, vem, veq, ne_eq, cmpI, arI, dvI, shI, SV.den] at qy900000
      clear hUq
      try dsimp only [Shp.D, Shp.Ds, Shp.dflt] at *
      try simp only [vem, veq, ne_eq, cmpI, arI, dvI, shI, SV.den, convL_self] at *
      rw [← q32, ← qy900000]
      exact ⟨by omega, by omega, rfl⟩
    obtain ⟨p1, p2, p3⟩ := hP1
    have p4 : (y1 900000 selE).length ≤ 24 := by
      rw [p3]
      refine Nat.le_trans (sideL_length _ _ _ _) ?_
      rw [hx0, List.length_take]
      have := Nat.min_le_right (z1 32).toNat (protosF plo phi).length
      omega
    subst hxp
    cbv
    (repeat' (first | ((with_reducible refine And.intro (fun h => ?_) (fun h => ?_)) <;> (first | with_reducible exact (tf h (by assumption)).elim | with_reducible exact (tf (by assumption) h).elim | cbv)) | ((with_reducible show JoinT (fun s K => vc _ (Code.region _ _ true) s K) _ _ _ _ _); (with_reducible apply JoinT.mg2); (focus (cbv; (repeat' (first | ((with_reducible refine And.intro (fun h => ?_) (fun h => ?_)) <;> (first | with_reducible exact (tf h (by assumption)).elim | with_reducible exact (tf (by assumption) h).elim | cbv)) | ((with_reducible first | refine Cb.mk ?_ | refine Lz.mk ?_ | refine JoinT.left ?_ | refine AllT.mk (fun x hx => ?_)); cbv) | ((with_reducible refine Ob.mk (fun _ => ?_) ?_); rotate_left 1) | (with_reducible first | refine Mg.mk (Exists.intro ?_ (And.intro ?_ ?_)) | rfl | refine Fin.mk ?_ | exact True.intro | refine And.intro ?_ ?_))); (all_goals (try (have du : Unit := (); have dv : Unit := (); first | exact Goes.self (Ex2.mk ⟨dv, du, trivial, trivial, rfl⟩) | exact Goes.self (Ex2.mk ⟨x, du, hx, trivial, rfl⟩) | (rename_i xa hxa; exact Goes.self (Ex2.mk ⟨xa, x, hxa, hx, rfl⟩))))); (all_goals (fail_if_success (with_reducible first | show Goes _ _ _ _ | show (∃ _, unr _ _ _ _ _ _))))))) | ((with_reducible first | refine Cb.mk ?_ | refine Lz.mk ?_ | refine JoinT.left ?_ | refine AllT.mk (fun x hx => ?_)); cbv) | ((with_reducible refine Ob.mk (fun _ => ?_) ?_); rotate_left 1) | (with_reducible first | refine Mg.mk (Exists.intro ?_ (And.intro ?_ ?_)) | rfl | refine Fin.mk ?_ | exact True.intro | refine And.intro ?_ ?_)))
    all_goals first | (with_reducible show (∃ _, unr _ _ _ _ _ _); skip) | (with_reducible show Goes _ _ _ _; skip) | (with_reducible show JoinT _ _ _ _ _ _; skip) | (first | ((try dsimp only [Shp.D, Shp.Ds, Shp.dflt] at *); simp only [vem, veq, ne_eq, cmpI, arI, dvI, shI, SV.den, obLt, elemAt, obApp, partL, obPart, lowD, highD, mxOk, convL_self, zerosB, List.length_replicate, vln] at *; (try dsimp only [Shp.D, Shp.Ds, Shp.dflt, Shp.dflts] at *); done) | ((try dsimp only [Shp.D, Shp.Ds, Shp.dflt] at *); simp only [vem, veq, ne_eq, cmpI, arI, dvI, shI, SV.den, obLt, elemAt, obApp, partL, obPart, lowD, highD, mxOk, convL_self, zerosB, List.length_replicate, vln] at *; (try dsimp only [Shp.D, Shp.Ds, Shp.dflt, Shp.dflts] at *); omega) | ((try dsimp only [Shp.D, Shp.Ds, Shp.dflt] at *); simp only [vem, veq, ne_eq, cmpI, arI, dvI, shI, SV.den, obLt, elemAt, obApp, partL, obPart, lowD, highD, mxOk, convL_self, zerosB, List.length_replicate, vln] at *; (try dsimp only [Shp.D, Shp.Ds, Shp.dflt, Shp.dflts] at *); rw [p3, List.take_of_length_le (by omega), hx0, hout]; rfl))
    have hy0 : x.1 = portsF (c1, c2, ()) := by simpa only [den_t] using hx.1
    have hql := portsF_length (c1, c2, ())
    obtain ⟨xq, hxq⟩ : ∃ xq, xq = x := ⟨_, rfl⟩
    rw [← hxq] at hy0
    have hyl : xq.1.length ≤ 3 := by rw [hy0]; exact hql
    with_reducible refine loop_hv [] (11 :: rangeN 40 13) [] [900000] (fun z b t y => 0 ≤ z 39 ∧ z 39 ≤ (xq.1.length : Int) ∧ y 900000 selE = sideL (f3, h3, l3, ()) (f4, h4, l4, ()) (xp.1.take (z1 32).toNat) (portsF (c1, c2, ())) ++ (xq.1.take (z 39).toNat).map (fun q => ((xp.1.getD (z1 32).toNat 0, q.1, q.2.1, (f3, h3, l3, ()), (f4, h4, l4, ()), ()) : SelT))) (fun z b t y => ((xq.1.length : Int) - z 39).toNat) (by cbv) (by cbv) ?_ ?_ (fun z2 b2 t2 u2 y2 R2 hP2 hR2 => ?_)
    · refine EndOk.mk (by cbv) (by cbv) (by cbv; repeat' (first | exact True.intro | exact rfl | with_reducible refine And.intro ?_ ?_)) (by cbv; repeat' (first | exact True.intro | exact rfl | with_reducible refine And.intro ?_ ?_)) (by cbv; repeat' (first | exact True.intro | exact rfl | with_reducible refine And.intro ?_ ?_))
    · intro zq bq tq yq hUq
      have q39 := hUq.z 39
      cbv at q39
      replace q39 := q39.eq
      simp only [atI, vem, veq, ne_eq, cmpI, arI, dvI, shI, SV.den] at q39
      have qy900000 := hUq.y 900000 (selE)
      cbv at qy900000
      replace qy900000 := qy900000.eq
      simp only [atY, convL_self, vem, veq, ne_eq, cmpI, arI, dvI, shI, SV.den] at qy900000
      clear hUq
      try dsimp only [Shp.D, Shp.Ds, Shp.dflt] at *
      try simp only [vem, veq, ne_eq, cmpI, arI, dvI, shI, SV.den, convL_self] at *
      rw [← q39, ← qy900000]
      exact ⟨by omega, by omega, by rw [p3]; simp⟩
    obtain ⟨r1, r2, r3⟩ := hP2
    subst hxq
    have r4 : (y2 900000 selE).length ≤ 40 := by
      rw [r3, List.length_append, ← p3, List.length_map, List.length_take]
      have := Nat.min_le_right (z2 39).toNat xq.1.length
      rw [hy0] at this
      rw [hy0]
      omega
    cbv
    (repeat' (first | ((with_reducible refine And.intro (fun h => ?_) (fun h => ?_)) <;> (first | with_reducible exact (tf h (by assumption)).elim | with_reducible exact (tf (by assumption) h).elim | cbv)) | ((with_reducible show JoinT (fun s K => vc _ (Code.region _ _ true) s K) _ _ _ _ _); (with_reducible apply JoinT.mg2); (focus (cbv; (repeat' (first | ((with_reducible refine And.intro (fun h => ?_) (fun h => ?_)) <;> (first | with_reducible exact (tf h (by assumption)).elim | with_reducible exact (tf (by assumption) h).elim | cbv)) | ((with_reducible first | refine Cb.mk ?_ | refine Lz.mk ?_ | refine JoinT.left ?_ | refine AllT.mk (fun x hx => ?_)); cbv) | ((with_reducible refine Ob.mk (fun _ => ?_) ?_); rotate_left 1) | (with_reducible first | refine Mg.mk (Exists.intro ?_ (And.intro ?_ ?_)) | rfl | refine Fin.mk ?_ | exact True.intro | refine And.intro ?_ ?_))); (all_goals (try (have du : Unit := (); have dv : Unit := (); first | exact Goes.self (Ex2.mk ⟨dv, du, trivial, trivial, rfl⟩) | exact Goes.self (Ex2.mk ⟨x, du, hx, trivial, rfl⟩) | (rename_i xa hxa; exact Goes.self (Ex2.mk ⟨xa, x, hxa, hx, rfl⟩))))); (all_goals (fail_if_success (with_reducible first | show Goes _ _ _ _ | show (∃ _, unr _ _ _ _ _ _))))))) | ((with_reducible first | refine Cb.mk ?_ | refine Lz.mk ?_ | refine JoinT.left ?_ | refine AllT.mk (fun x hx => ?_)); cbv) | ((with_reducible refine Ob.mk (fun _ => ?_) ?_); rotate_left 1) | (with_reducible first | refine Mg.mk (Exists.intro ?_ (And.intro ?_ ?_)) | rfl | refine Fin.mk ?_ | exact True.intro | refine And.intro ?_ ?_)))
    all_goals first | (with_reducible show (∃ _, unr _ _ _ _ _ _); skip) | (with_reducible show Goes _ _ _ _; skip) | (with_reducible show JoinT _ _ _ _ _ _; skip) | (first | ((try dsimp only [Shp.D, Shp.Ds, Shp.dflt] at *); simp only [vem, veq, ne_eq, cmpI, arI, dvI, shI, SV.den, obLt, elemAt, obApp, partL, obPart, lowD, highD, mxOk, convL_self, zerosB, List.length_replicate, vln] at *; (try dsimp only [Shp.D, Shp.Ds, Shp.dflt, Shp.dflts] at *); done) | ((try dsimp only [Shp.D, Shp.Ds, Shp.dflt] at *); simp only [vem, veq, ne_eq, cmpI, arI, dvI, shI, SV.den, obLt, elemAt, obApp, partL, obPart, lowD, highD, mxOk, convL_self, zerosB, List.length_replicate, vln] at *; (try dsimp only [Shp.D, Shp.Ds, Shp.dflt, Shp.dflts] at *); omega))
    · with_reducible refine hR2 _ ?_ (fun zq bq tq yq hUq => ?_)
      · refine EndOk.mk (by cbv) (by cbv) (by cbv; repeat' (first | exact True.intro | exact rfl | with_reducible refine And.intro ?_ ?_)) (by cbv; repeat' (first | exact True.intro | exact rfl | with_reducible refine And.intro ?_ ?_)) (by cbv; repeat' (first | exact True.intro | exact rfl | with_reducible refine And.intro ?_ ?_))
      have q39 := hUq.z 39
      cbv at q39
      replace q39 := q39.eq
      simp only [atI, vem, veq, ne_eq, cmpI, arI, dvI, shI, SV.den] at q39
      have qy900000 := hUq.y 900000 (selE)
      cbv at qy900000
      replace qy900000 := qy900000.eq
      simp only [atY, convL_self, vem, veq, ne_eq, cmpI, arI, dvI, shI, SV.den] at qy900000
      clear hUq hR2
      try dsimp only [Shp.D, Shp.Ds, Shp.dflt] at *
      try simp only [vem, veq, ne_eq, cmpI, arI, dvI, shI, SV.den, elemAt, convL_self] at *
      try dsimp only [Shp.D, Shp.Ds, Shp.dflt, Shp.dflts] at *
      refine ⟨⟨by omega, by omega, ?_⟩, by omega⟩
      rw [← qy900000, r3, show (zq 39).toNat = (z2 39).toNat + 1 by omega, map_take1 _ xq.1 prtD0 (by omega), List.append_assoc]
    · with_reducible refine hR1 _ ?_ (fun zq bq tq yq hUq => ?_)
      · refine EndOk.mk (by cbv) (by cbv) (by cbv; repeat' (first | exact True.intro | exact rfl | with_reducible refine And.intro ?_ ?_)) (by cbv; repeat' (first | exact True.intro | exact rfl | with_reducible refine And.intro ?_ ?_)) (by cbv; repeat' (first | exact True.intro | exact rfl | with_reducible refine And.intro ?_ ?_))
      have q32 := hUq.z 32
      cbv at q32
      replace q32 := q32.eq
      simp only [atI, vem, veq, ne_eq, cmpI, arI, dvI, shI, SV.den] at q32
      have qy900000 := hUq.y 900000 (selE)
      cbv at qy900000
      replace qy900000 := qy900000.eq
      simp only [atY, convL_self, vem, veq, ne_eq, cmpI, arI, dvI, shI, SV.den] at qy900000
      clear hUq hR1
      try dsimp only [Shp.D, Shp.Ds, Shp.dflt] at *
      try simp only [vem, veq, ne_eq, cmpI, arI, dvI, shI, SV.den, elemAt, convL_self] at *
      try dsimp only [Shp.D, Shp.Ds, Shp.dflt, Shp.dflts] at *
      refine ⟨⟨by omega, by omega, ?_⟩, by omega⟩
      rw [← qy900000, r3, show (zq 32).toNat = (z1 32).toNat + 1 by omega, List.take_of_length_le (l := xq.1) (by omega), hy0]
      exact (fm_take (fun p => (portsF (c1, c2, ())).map fun q => ((p, q.1, q.2.1, (f3, h3, l3, ()), (f4, h4, l4, ()), ()) : SelT)) xp.1 (0 : Int) (k := (z1 32).toNat) (by omega)).symm
end Go.Proofs.Ytiinlanpinanhaa.V
