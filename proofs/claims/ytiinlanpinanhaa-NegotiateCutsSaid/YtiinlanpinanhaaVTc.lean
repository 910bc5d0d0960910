/- Contracts: the choice between two proposals (negotiate). -/
import Derived.Test.YtiinlanpinanhaaVTr
set_option linter.unusedVariables false
set_option linter.unusedSimpArgs false
namespace Go.Proofs.Ytiinlanpinanhaa.V
open Go.RowKit
set_option maxHeartbeats 8000000
set_option maxRecDepth 100000
/-- The first of the own transforms of a kind that the offer has. -/
def pickT (own off : List TrT) (k : Int) : Option TrT := own.find? fun t => t.1 == k && hasT off t
def kindsF (set : Int) (own off : List TrT) : List Int → Option (List TrT)
  | [] => some []
  | k :: ks => match decide (bits .and .u64 set (IntKind.u64.wrap (1 * 2 ^ min k.toNat 64)) = 0) with
    | true => kindsF set own off ks
    | false => match pickT own off k with
      | none => none
      | some t => (kindsF set own off ks).map (t :: ·)
def choiceL (o w : PrT) : Option (List TrT) :=
  if o.2.1 = w.2.1 ∧ typeF w.2.2.2.1 = typeF o.2.2.2.1 then kindsF (typeF w.2.2.2.1) w.2.2.2.1 o.2.2.2.1 [1, 2, 3, 4, 5] else none
def prD0 : PrT := (0, 0, [], [], ())
def choiceF (o w : PrT) : PrT × Bool := match choiceL o w with
  | some l => ((o.1, o.2.1, o.2.2.1, l, ()), true)
  | none => (prD0, false)
theorem choiceF_none {o w : PrT} (h : ¬ (o.2.1 = w.2.1 ∧ typeF w.2.2.2.1 = typeF o.2.2.2.1)) : choiceF o w = (prD0, false) := by
  unfold choiceF choiceL
  rw [if_neg h]
def ksF (k : Int) : List Int := [1, 2, 3, 4, 5].drop (k - 1).toNat
theorem ksF_cons {k : Int} (h1 : 1 ≤ k) (h2 : k ≤ 5) : ksF k = k :: ksF (k + 1) := by
  rcases (by omega : k = 1 ∨ k = 2 ∨ k = 3 ∨ k = 4 ∨ k = 5) with rfl | rfl | rfl | rfl | rfl <;> rfl
theorem kinds_skip {s k : Int} {w o : List TrT} (h1 : 1 ≤ k) (h2 : k ≤ 5) (h : bits .and .u64 s (IntKind.u64.wrap (1 * 2 ^ min k.toNat 64)) = 0) : kindsF s w o (ksF k) = kindsF s w o (ksF (k + 1)) := by
  rw [ksF_cons h1 h2]
  simp only [kindsF, h, decide_true]
theorem kinds_hit {s k : Int} {w o : List TrT} {t : TrT} (h1 : 1 ≤ k) (h2 : k ≤ 5) (h : ¬ bits .and .u64 s (IntKind.u64.wrap (1 * 2 ^ min k.toNat 64)) = 0) (ht : pickT w o k = some t) : kindsF s w o (ksF k) = (kindsF s w o (ksF (k + 1))).map (t :: ·) := by
  rw [ksF_cons h1 h2]
  simp only [kindsF, h, decide_false, ht]
theorem kinds_no {s k : Int} {w o : List TrT} (h1 : 1 ≤ k) (h2 : k ≤ 5) (h : ¬ bits .and .u64 s (IntKind.u64.wrap (1 * 2 ^ min k.toNat 64)) = 0) (ht : pickT w o k = none) : kindsF s w o (ksF k) = none := by
  rw [ksF_cons h1 h2]
  simp only [kindsF, h, decide_false, ht]
theorem choiceF_some {o w : PrT} {l : List TrT} (h : o.2.1 = w.2.1 ∧ typeF w.2.2.2.1 = typeF o.2.2.2.1) (hk : kindsF (typeF w.2.2.2.1) w.2.2.2.1 o.2.2.2.1 [1, 2, 3, 4, 5] = some l) : choiceF o w = ((o.1, o.2.1, o.2.2.1, l, ()), true) := by
  unfold choiceF choiceL
  rw [if_pos h, hk]
theorem choiceF_none2 {o w : PrT} (h : o.2.1 = w.2.1 ∧ typeF w.2.2.2.1 = typeF o.2.2.2.1) (hk : kindsF (typeF w.2.2.2.1) w.2.2.2.1 o.2.2.2.1 [1, 2, 3, 4, 5] = none) : choiceF o w = (prD0, false) := by
  unfold choiceF choiceL
  rw [if_pos h, hk]
theorem pick_hit {own off : List TrT} {k : Int} {n : Nat} (hn : n < own.length) (hr : (own.drop n).find? (fun t => t.1 == k && hasT off t) = pickT own off k) (h1 : (own.getD n trD0).1 = k) (h2 : hasT off (own.getD n trD0) = true) : pickT own off k = some (own.getD n trD0) := by
  rw [← hr, List.drop_eq_getElem_cons hn, List.find?_cons]
  rw [List.getD_eq_getElem?_getD, List.getElem?_eq_getElem hn] at h1 h2 ⊢
  simp only [Option.getD_some] at h1 h2 ⊢
  simp [h1, h2]
theorem pick_next {own off : List TrT} {k : Int} {n : Nat} (hn : n < own.length) (hr : (own.drop n).find? (fun t => t.1 == k && hasT off t) = pickT own off k) (h : ¬ (own.getD n trD0).1 = k ∨ hasT off (own.getD n trD0) = false) : (own.drop (n + 1)).find? (fun t => t.1 == k && hasT off t) = pickT own off k := by
  rw [← hr, List.drop_eq_getElem_cons hn, List.find?_cons]
  rw [List.getD_eq_getElem?_getD, List.getElem?_eq_getElem hn] at h
  simp only [Option.getD_some] at h
  rcases h with h | h
  · rw [beq_eq_false_iff_ne.2 h]; rfl
  · rw [h, Bool.and_false]
theorem findd {α : Type} (l : List α) (p : α → Bool) (d : α) (k : Nat) (h : k < l.length) : (l.drop k).find? p = if p (l.getD k d) then some (l.getD k d) else (l.drop (k + 1)).find? p := by
  rw [List.drop_eq_getElem_cons h, List.find?_cons, List.getD_eq_getElem?_getD, List.getElem?_eq_getElem h]
  cases hp : p l[k] <;> simp [hp]
def tc1C_t : SpecT := lf0 66 (hasTFn)
def tc1C : Cx := ⟨tt, qt, bt, st, tc1C_t, 0, 1000000000000000, fun _ => none, false, CxE.no⟩
theorem tc1C_si {E : Env} (h : E.ok) : SpecsOk Try.prog E (CxE.no) tc1C_t (fun _ => none) := ⟨(lf0_ok (con_sp h)), noI_ok _ _ _⟩
theorem tc1C_x {E : Env} (h : E.ok) : CxEOk Try.prog E (CxE.no) := CxE.no_ok _ _
theorem tc1C_cx (E : Env) (h : E.ok) (h1 : E.lo = 0) (h2 : E.hi = 1000000000000000) : Cx.ok tc1C Try.prog E := ⟨tt_ok, qt_ok, bt_ok, tc1C_si h, h, h1, h2, mixed_ok, tc1C_x h⟩
theorem tc1C_from (lo hi : Nat) (E : Env) (h : E.ok) (h1 : E.lo = lo) (h2 : E.hi = hi) : Cx.ok (Cx.from tc1C lo hi) Try.prog E := ⟨tt_ok, qt_ok, bt_ok, tc1C_si h, h, h1, h2, mixed_ok, tc1C_x h⟩
def tifC_t : SpecT := fun _ => none
def tifC_i : SpecT := lf0 99 (inlSpec tc1C Try.f99)
def tifC : Cx := ⟨tt, qt, bt, st, tifC_t, 0, 1000000000000000, tifC_i, true, CxE.no⟩
theorem tifC_si {E : Env} (h : E.ok) : SpecsOk Try.prog E (CxE.no) tifC_t (tifC_i) := ⟨(fun t f h => by cases h), (lf0_ok (inl_ok h tc1C_from Try.func99 ⟨by rfl, by rfl⟩ (by kernel_rfl)))⟩
theorem tifC_x {E : Env} (h : E.ok) : CxEOk Try.prog E (CxE.no) := CxE.no_ok _ _
theorem tifC_cx (E : Env) (h : E.ok) (h1 : E.lo = 0) (h2 : E.hi = 1000000000000000) : Cx.ok tifC Try.prog E := ⟨tt_ok, qt_ok, bt_ok, tifC_si h, h, h1, h2, mixed_ok, tifC_x h⟩
theorem tifC_from (lo hi : Nat) (E : Env) (h : E.ok) (h1 : E.lo = lo) (h2 : E.hi = hi) : Cx.ok (Cx.from tifC lo hi) Try.prog E := ⟨tt_ok, qt_ok, bt_ok, tifC_si h, h, h1, h2, mixed_ok, tifC_x h⟩
def choC_t : SpecT := nd0 97 (lf0 65 (tyoFn)) (lf0 97 (cloSp))
def choC_i : SpecT := lf0 98 (inlSpec tifC Try.f98)
def choC : Cx := ⟨tt, qt, bt, st, choC_t, 0, 1000000000000000, choC_i, true, CxE.no⟩
theorem choC_si {E : Env} (h : E.ok) : SpecsOk Try.prog E (CxE.no) choC_t (choC_i) := ⟨(nd0_ok (lf0_ok (tyo_sp h)) (lf0_ok (clo_sp h))), (lf0_ok (inl_ok h tifC_from Try.func98 ⟨by rfl, by rfl⟩ (by kernel_rfl)))⟩
theorem choC_x {E : Env} (h : E.ok) : CxEOk Try.prog E (CxE.no) := CxE.no_ok _ _
theorem choC_cx (E : Env) (h : E.ok) (h1 : E.lo = 0) (h2 : E.hi = 1000000000000000) : Cx.ok choC Try.prog E := ⟨tt_ok, qt_ok, bt_ok, choC_si h, h, h1, h2, mixed_ok, choC_x h⟩
theorem choC_from (lo hi : Nat) (E : Env) (h : E.ok) (h1 : E.lo = lo) (h2 : E.hi = hi) : Cx.ok (Cx.from choC lo hi) Try.prog E := ⟨tt_ok, qt_ok, bt_ok, choC_si h, h, h1, h2, mixed_ok, choC_x h⟩
theorem cho_fn : hasFn Try.prog 60 := ⟨_, Try.func60, by rfl, by rfl⟩
abbrev choSp : Spec := fnSpec [prE, prE] [prE, .bool] [5, 48] (fun x => okT x.1.2.2.2.1 ∧ okT x.2.1.2.2.2.1) fun x y => (y.1, y.2.1) = choiceF x.1 x.2.1
theorem cho_sp {E : Env} (hE : E.ok) : SpecOk Try.prog E 60 choSp := by
  refine spec_of_vc (C := choC) cho_fn Try.func60 (by kernel_rfl) choC_cx (fun x hl hx => ?_) hE
  obtain ⟨⟨nu, po, sp, ol, u1⟩, ⟨nu', po', sp', wl, u1'⟩, u2⟩ := x
  obtain ⟨hx1, hx2⟩ := hx
  have hlen : wl.length ≤ 140737488355328 := by simp only [Shp.lims, Shp.lim] at hl; exact hl.2.1.2.2.2.1.1
  cbv
  (repeat' (first | ((with_reducible refine And.intro (fun h => ?_) (fun h => ?_)) <;> (first | with_reducible exact (tf h (by assumption)).elim | with_reducible exact (tf (by assumption) h).elim | cbv)) | ((with_reducible show JoinT (fun s K => vc _ (Code.region _ _ true) s K) _ _ _ _ _); (with_reducible apply JoinT.mg2); (focus (cbv; (repeat' (first | ((with_reducible refine And.intro (fun h => ?_) (fun h => ?_)) <;> (first | with_reducible exact (tf h (by assumption)).elim | with_reducible exact (tf (by assumption) h).elim | cbv)) | ((with_reducible first | refine Cb.mk ?_ | refine Lz.mk ?_ | refine JoinT.left ?_ | refine AllT.mk (fun x hx => ?_)); cbv) | ((with_reducible refine Ob.mk (fun _ => ?_) ?_); rotate_left 1) | (with_reducible first | refine Mg.mk (Exists.intro ?_ (And.intro ?_ ?_)) | rfl | refine Fin.mk ?_ | exact True.intro | refine And.intro ?_ ?_))); (all_goals (try (have du : Unit := (); have dv : Unit := (); first | exact Goes.self (Ex2.mk ⟨dv, du, trivial, trivial, rfl⟩) | exact Goes.self (Ex2.mk ⟨x, du, hx, trivial, rfl⟩) | (rename_i xa hxa; exact Goes.self (Ex2.mk ⟨xa, x, hxa, hx, rfl⟩))))); (all_goals (fail_if_success (with_reducible first | show Goes _ _ _ _ | show (∃ _, unr _ _ _ _ _ _))))))) | ((with_reducible first | refine Cb.mk ?_ | refine Lz.mk ?_ | refine JoinT.left ?_ | refine AllT.mk (fun x hx => ?_)); cbv) | ((with_reducible refine Ob.mk (fun _ => ?_) ?_); rotate_left 1) | (with_reducible first | refine Mg.mk (Exists.intro ?_ (And.intro ?_ ?_)) | rfl | refine Fin.mk ?_ | exact True.intro | refine And.intro ?_ ?_)))
  all_goals first | (with_reducible show (∃ _, unr _ _ _ _ _ _); skip) | (with_reducible show Goes _ _ _ _; skip) | (with_reducible show JoinT _ _ _ _ _ _; skip) | (first | ((try dsimp only [Shp.D, Shp.Ds, Shp.dflt] at *); simp only [vem, veq, ne_eq, cmpI, arI, dvI, shI, SV.den, obLt, elemAt, obApp, partL, obPart, lowD, highD, mxOk, convL_self, zerosB, List.length_replicate, vln] at *; (try dsimp only [Shp.D, Shp.Ds, Shp.dflt, Shp.dflts] at *); done) | ((try dsimp only [Shp.D, Shp.Ds, Shp.dflt] at *); simp only [vem, veq, ne_eq, cmpI, arI, dvI, shI, SV.den, obLt, elemAt, obApp, partL, obPart, lowD, highD, mxOk, convL_self, zerosB, List.length_replicate, vln] at *; (try dsimp only [Shp.D, Shp.Ds, Shp.dflt, Shp.dflts] at *); omega) | assumption | ((try dsimp only [Shp.D, Shp.Ds, Shp.dflt] at *); simp only [vem, veq, ne_eq, cmpI, arI, dvI, shI, SV.den, obLt, elemAt, obApp, partL, obPart, lowD, highD, mxOk, convL_self, zerosB, List.length_replicate, vln] at *; (try dsimp only [Shp.D, Shp.Ds, Shp.dflt, Shp.dflts] at *); exact (choiceF_none (by simp_all)).symm))
  with_reducible refine loop_hv [(174595, 9000, 48, trE)] (9 :: rangeN 32 27) [2664, 2792] [9000] (fun z b t y => z 174592 = nu ∧ z 174593 = po ∧ 1 ≤ z 182784 ∧ z 182784 ≤ 6 ∧ ((y 9000 trE).length : Int) ≤ z 182784 ∧ kindsF (typeF wl) wl ol [1, 2, 3, 4, 5] = (kindsF (typeF wl) wl ol (ksF (z 182784))).map (y 9000 trE ++ ·)) (fun z b t y => (6 - z 182784).toNat) (by cbv) (by cbv) ?_ ?_ (fun z1 b1 t1 u1 y1 R1 hP1 hR1 => ?_)
  · refine EndOk.mk (by cbv) (by cbv) (by cbv; repeat' (first | exact True.intro | exact rfl | with_reducible refine And.intro ?_ ?_)) (by cbv; repeat' (first | exact True.intro | exact rfl | with_reducible refine And.intro ?_ ?_)) (by cbv; repeat' (first | exact True.intro | exact rfl | with_reducible refine And.intro ?_ ?_))
  · intro zq bq tq yq hUq
    have q174592 := hUq.z 174592
    cbv at q174592
    replace q174592 := q174592.eq
    simp only [atI, vem, veq, ne_eq, cmpI, arI, dvI, shI, SV.den] at q174592
    have q174593 := hUq.z 174593
    cbv at q174593
    replace q174593 := q174593.eq
    simp only [atI, vem, veq, ne_eq, cmpI, arI, dvI, shI, SV.den] at q174593
    have q182784 := hUq.z 182784
    cbv at q182784
    replace q182784 := q182784.eq
    simp only [atI, vem, veq, ne_eq, cmpI, arI, dvI, shI, SV.den] at q182784
    have qy9000 := hUq.y 9000 (trE)
    cbv at qy9000
    replace qy9000 := qy9000.eq
    simp only [atY, convL_self, vem, veq, ne_eq, cmpI, arI, dvI, shI, SV.den] at qy9000
    clear hUq
    try dsimp only [Shp.D, Shp.Ds, Shp.dflt] at *
    try simp only [vem, veq, ne_eq, cmpI, arI, dvI, shI, SV.den, convL_self] at *
    rw [← q174592, ← q174593, ← q182784, ← qy9000]
    refine ⟨rfl, rfl, by decide, by decide, by decide, ?_⟩
    show _ = Option.map _ (kindsF (typeF wl) wl ol [1, 2, 3, 4, 5])
    simp
  obtain ⟨p1, p2, p3, p4, p6, p5⟩ := hP1
  cbv
  (repeat' (first | ((with_reducible refine And.intro (fun h => ?_) (fun h => ?_)) <;> (first | with_reducible exact (tf h (by assumption)).elim | with_reducible exact (tf (by assumption) h).elim | cbv)) | ((with_reducible show JoinT (fun s K => vc _ (Code.region _ _ true) s K) _ _ _ _ _); (with_reducible apply JoinT.mg2); (focus (cbv; (repeat' (first | ((with_reducible refine And.intro (fun h => ?_) (fun h => ?_)) <;> (first | with_reducible exact (tf h (by assumption)).elim | with_reducible exact (tf (by assumption) h).elim | cbv)) | ((with_reducible first | refine Cb.mk ?_ | refine Lz.mk ?_ | refine JoinT.left ?_ | refine AllT.mk (fun x hx => ?_)); cbv) | ((with_reducible refine Ob.mk (fun _ => ?_) ?_); rotate_left 1) | (with_reducible first | refine Mg.mk (Exists.intro ?_ (And.intro ?_ ?_)) | rfl | refine Fin.mk ?_ | exact True.intro | refine And.intro ?_ ?_))); (all_goals (try (have du : Unit := (); have dv : Unit := (); first | exact Goes.self (Ex2.mk ⟨dv, du, trivial, trivial, rfl⟩) | exact Goes.self (Ex2.mk ⟨x, du, hx, trivial, rfl⟩) | (rename_i xa hxa; exact Goes.self (Ex2.mk ⟨xa, x, hxa, hx, rfl⟩))))); (all_goals (fail_if_success (with_reducible first | show Goes _ _ _ _ | show (∃ _, unr _ _ _ _ _ _))))))) | ((with_reducible first | refine Cb.mk ?_ | refine Lz.mk ?_ | refine JoinT.left ?_ | refine AllT.mk (fun x hx => ?_)); cbv) | ((with_reducible refine Ob.mk (fun _ => ?_) ?_); rotate_left 1) | (with_reducible first | refine Mg.mk (Exists.intro ?_ (And.intro ?_ ?_)) | rfl | refine Fin.mk ?_ | exact True.intro | refine And.intro ?_ ?_)))
  all_goals first | (with_reducible show (∃ _, unr _ _ _ _ _ _); skip) | (with_reducible show Goes _ _ _ _; skip) | (with_reducible show JoinT _ _ _ _ _ _; skip) | (first | ((try dsimp only [Shp.D, Shp.Ds, Shp.dflt] at *); simp only [vem, veq, ne_eq, cmpI, arI, dvI, shI, SV.den, obLt, elemAt, obApp, partL, obPart, lowD, highD, mxOk, convL_self, zerosB, List.length_replicate, vln] at *; (try dsimp only [Shp.D, Shp.Ds, Shp.dflt, Shp.dflts] at *); done) | ((try dsimp only [Shp.D, Shp.Ds, Shp.dflt] at *); simp only [vem, veq, ne_eq, cmpI, arI, dvI, shI, SV.den, obLt, elemAt, obApp, partL, obPart, lowD, highD, mxOk, convL_self, zerosB, List.length_replicate, vln] at *; (try dsimp only [Shp.D, Shp.Ds, Shp.dflt, Shp.dflts] at *); omega) | ((try dsimp only [Shp.D, Shp.Ds, Shp.dflt] at *); simp only [vem, veq, ne_eq, cmpI, arI, dvI, shI, SV.den, obLt, elemAt, obApp, partL, obPart, lowD, highD, mxOk, convL_self, zerosB, List.length_replicate, vln] at *; (try dsimp only [Shp.D, Shp.Ds, Shp.dflt, Shp.dflts] at *); rw [p1, p2, hx.1, choiceF_some ⟨by assumption, by assumption⟩ (l := y1 9000 trE) (by show kindsF (typeF wl) wl ol [1, 2, 3, 4, 5] = _; rw [p5, show z1 182784 = 6 by omega]; simp [ksF, kindsF])]))
  · with_reducible refine hR1 _ ?_ (fun zq bq tq yq hUq => ?_)
    · refine EndOk.mk (by cbv) (by cbv) (by cbv; repeat' (first | exact True.intro | exact rfl | with_reducible refine And.intro ?_ ?_)) (by cbv; repeat' (first | exact True.intro | exact rfl | with_reducible refine And.intro ?_ ?_)) (by cbv; repeat' (first | exact True.intro | exact rfl | with_reducible refine And.intro ?_ ?_))
    have q174592 := hUq.z 174592
    cbv at q174592
    replace q174592 := q174592.eq
    simp only [atI, vem, veq, ne_eq, cmpI, arI, dvI, shI, SV.den] at q174592
    have q174593 := hUq.z 174593
    cbv at q174593
    replace q174593 := q174593.eq
    simp only [atI, vem, veq, ne_eq, cmpI, arI, dvI, shI, SV.den] at q174593
    have q182784 := hUq.z 182784
    cbv at q182784
    replace q182784 := q182784.eq
    simp only [atI, vem, veq, ne_eq, cmpI, arI, dvI, shI, SV.den] at q182784
    have qy9000 := hUq.y 9000 (trE)
    cbv at qy9000
    replace qy9000 := qy9000.eq
    simp only [atY, convL_self, vem, veq, ne_eq, cmpI, arI, dvI, shI, SV.den] at qy9000
    clear hUq hR1
    try dsimp only [Shp.D, Shp.Ds, Shp.dflt] at *
    try simp only [vem, veq, ne_eq, cmpI, arI, dvI, shI, SV.den, elemAt, convL_self] at *
    try dsimp only [Shp.D, Shp.Ds, Shp.dflt, Shp.dflts] at *
    rw [← q174592, ← q174593, ← qy9000, show zq 182784 = z1 182784 + 1 by omega]
    exact ⟨⟨p1, p2, by omega, by omega, by omega, by rw [p5, kinds_skip p3 (by omega) h]⟩, by omega⟩
  with_reducible refine loop_hv [] (5 :: rangeN 9 10) [] [] (fun z b t y => 0 ≤ z 8 ∧ z 8 ≤ (wl.length : Int) ∧ (wl.drop (z 8).toNat).find? (fun t => t.1 == z1 182784 && hasT ol t) = pickT wl ol (z1 182784)) (fun z b t y => ((wl.length : Int) - z 8).toNat) (by cbv) (by cbv) ?_ ?_ (fun z2 b2 t2 u2 y2 R2 hP2 hR2 => ?_)
  · refine EndOk.mk (by cbv) (by cbv) (by cbv; repeat' (first | exact True.intro | exact rfl | with_reducible refine And.intro ?_ ?_)) (by cbv; repeat' (first | exact True.intro | exact rfl | with_reducible refine And.intro ?_ ?_)) (by cbv; repeat' (first | exact True.intro | exact rfl | with_reducible refine And.intro ?_ ?_))
  · intro zq bq tq yq hUq
    have q8 := hUq.z 8
    cbv at q8
    replace q8 := q8.eq
    simp only [atI, vem, veq, ne_eq, cmpI, arI, dvI, shI, SV.den] at q8
    clear hUq
    try dsimp only [Shp.D, Shp.Ds, Shp.dflt] at *
    try simp only [vem, veq, ne_eq, cmpI, arI, dvI, shI, SV.den, convL_self] at *
    rw [← q8]
    exact ⟨by omega, by omega, rfl⟩
  obtain ⟨r1, r2, r3⟩ := hP2
  cbv
  (repeat' (first | ((with_reducible refine And.intro (fun h => ?_) (fun h => ?_)) <;> (first | with_reducible exact (tf h (by assumption)).elim | with_reducible exact (tf (by assumption) h).elim | cbv)) | ((with_reducible show JoinT (fun s K => vc _ (Code.region _ _ true) s K) _ _ _ _ _); (with_reducible apply JoinT.mg2); (focus (cbv; (repeat' (first | ((with_reducible refine And.intro (fun h => ?_) (fun h => ?_)) <;> (first | with_reducible exact (tf h (by assumption)).elim | with_reducible exact (tf (by assumption) h).elim | cbv)) | ((with_reducible first | refine Cb.mk ?_ | refine Lz.mk ?_ | refine JoinT.left ?_ | refine AllT.mk (fun x hx => ?_)); cbv) | ((with_reducible refine Ob.mk (fun _ => ?_) ?_); rotate_left 1) | (with_reducible first | refine Mg.mk (Exists.intro ?_ (And.intro ?_ ?_)) | rfl | refine Fin.mk ?_ | exact True.intro | refine And.intro ?_ ?_))); (all_goals (try (have du : Unit := (); have dv : Unit := (); first | exact Goes.self (Ex2.mk ⟨dv, du, trivial, trivial, rfl⟩) | exact Goes.self (Ex2.mk ⟨x, du, hx, trivial, rfl⟩) | (rename_i xa hxa; exact Goes.self (Ex2.mk ⟨xa, x, hxa, hx, rfl⟩))))); (all_goals (fail_if_success (with_reducible first | show Goes _ _ _ _ | show (∃ _, unr _ _ _ _ _ _))))))) | ((with_reducible first | refine Cb.mk ?_ | refine Lz.mk ?_ | refine JoinT.left ?_ | refine AllT.mk (fun x hx => ?_)); cbv) | ((with_reducible refine Ob.mk (fun _ => ?_) ?_); rotate_left 1) | (with_reducible first | refine Mg.mk (Exists.intro ?_ (And.intro ?_ ?_)) | rfl | refine Fin.mk ?_ | exact True.intro | refine And.intro ?_ ?_)))
  all_goals first | (with_reducible show (∃ _, unr _ _ _ _ _ _); skip) | (with_reducible show Goes _ _ _ _; skip) | (with_reducible show JoinT _ _ _ _ _ _; skip) | (first | ((try dsimp only [Shp.D, Shp.Ds, Shp.dflt] at *); simp only [vem, veq, ne_eq, cmpI, arI, dvI, shI, SV.den, obLt, elemAt, obApp, partL, obPart, lowD, highD, mxOk, convL_self, zerosB, List.length_replicate, vln] at *; (try dsimp only [Shp.D, Shp.Ds, Shp.dflt, Shp.dflts] at *); done) | ((try dsimp only [Shp.D, Shp.Ds, Shp.dflt] at *); simp only [vem, veq, ne_eq, cmpI, arI, dvI, shI, SV.den, obLt, elemAt, obApp, partL, obPart, lowD, highD, mxOk, convL_self, zerosB, List.length_replicate, vln] at *; (try dsimp only [Shp.D, Shp.Ds, Shp.dflt, Shp.dflts] at *); omega) | ((try dsimp only [Shp.D, Shp.Ds, Shp.dflt] at *); simp only [vem, veq, ne_eq, cmpI, arI, dvI, shI, SV.den, obLt, elemAt, obApp, partL, obPart, lowD, highD, mxOk, convL_self, zerosB, List.length_replicate, vln] at *; (try dsimp only [Shp.D, Shp.Ds, Shp.dflt, Shp.dflts] at *); rw [List.drop_eq_nil_of_le (by omega)] at r3; rw [choiceF_none2 ⟨by assumption, by assumption⟩ (by show kindsF (typeF wl) wl ol [1, 2, 3, 4, 5] = _; rw [p5, kinds_no p3 (by assumption) (by assumption) r3.symm]; rfl)]; rfl))
  · with_reducible refine hR1 _ ?_ (fun zq bq tq yq hUq => ?_)
    · refine EndOk.mk (by cbv) (by cbv) (by cbv; repeat' (first | exact True.intro | exact rfl | with_reducible refine And.intro ?_ ?_)) (by cbv; repeat' (first | exact True.intro | exact rfl | with_reducible refine And.intro ?_ ?_)) (by cbv; repeat' (first | exact True.intro | exact rfl | with_reducible refine And.intro ?_ ?_))
    have q174592 := hUq.z 174592
    cbv at q174592
    replace q174592 := q174592.eq
    simp only [atI, vem, veq, ne_eq, cmpI, arI, dvI, shI, SV.den] at q174592
    have q174593 := hUq.z 174593
    cbv at q174593
    replace q174593 := q174593.eq
    simp only [atI, vem, veq, ne_eq, cmpI, arI, dvI, shI, SV.den] at q174593
    have q182784 := hUq.z 182784
    cbv at q182784
    replace q182784 := q182784.eq
    simp only [atI, vem, veq, ne_eq, cmpI, arI, dvI, shI, SV.den] at q182784
    have qy9000 := hUq.y 9000 (trE)
    cbv at qy9000
    replace qy9000 := qy9000.eq
    simp only [atY, convL_self, vem, veq, ne_eq, cmpI, arI, dvI, shI, SV.den] at qy9000
    clear hUq hR1
    try dsimp only [Shp.D, Shp.Ds, Shp.dflt] at *
    try simp only [vem, veq, ne_eq, cmpI, arI, dvI, shI, SV.den, elemAt, convL_self] at *
    try dsimp only [Shp.D, Shp.Ds, Shp.dflt, Shp.dflts] at *
    have hh := pick_hit (by omega) r3 ‹(wl.getD (z2 8).toNat (0, 0, 0, ())).fst = z1 182784› ‹hasT ol _ = true›
    rw [← q174592, ← q174593, ← qy9000, show zq 182784 = z1 182784 + 1 by omega]
    refine ⟨⟨p1, p2, by omega, by omega, by simp only [List.length_append, List.length_cons, List.length_nil]; omega, ?_⟩, by omega⟩
    rw [p5, kinds_hit p3 (by assumption) (by assumption) hh, Option.map_map]
    simp [Function.comp_def]
  · with_reducible refine hR2 _ ?_ (fun zq bq tq yq hUq => ?_)
    · refine EndOk.mk (by cbv) (by cbv) (by cbv; repeat' (first | exact True.intro | exact rfl | with_reducible refine And.intro ?_ ?_)) (by cbv; repeat' (first | exact True.intro | exact rfl | with_reducible refine And.intro ?_ ?_)) (by cbv; repeat' (first | exact True.intro | exact rfl | with_reducible refine And.intro ?_ ?_))
    have q8 := hUq.z 8
    cbv at q8
    replace q8 := q8.eq
    simp only [atI, vem, veq, ne_eq, cmpI, arI, dvI, shI, SV.den] at q8
    clear hUq hR2
    try dsimp only [Shp.D, Shp.Ds, Shp.dflt] at *
    try simp only [vem, veq, ne_eq, cmpI, arI, dvI, shI, SV.den, elemAt, convL_self] at *
    try dsimp only [Shp.D, Shp.Ds, Shp.dflt, Shp.dflts] at *
    refine ⟨⟨by omega, by omega, ?_⟩, by omega⟩
    rw [show (zq 8).toNat = (z2 8).toNat + 1 by omega]
    exact pick_next (by omega) r3 (.inr h)
  · with_reducible refine hR2 _ ?_ (fun zq bq tq yq hUq => ?_)
    · refine EndOk.mk (by cbv) (by cbv) (by cbv; repeat' (first | exact True.intro | exact rfl | with_reducible refine And.intro ?_ ?_)) (by cbv; repeat' (first | exact True.intro | exact rfl | with_reducible refine And.intro ?_ ?_)) (by cbv; repeat' (first | exact True.intro | exact rfl | with_reducible refine And.intro ?_ ?_))
    have q8 := hUq.z 8
    cbv at q8
    replace q8 := q8.eq
    simp only [atI, vem, veq, ne_eq, cmpI, arI, dvI, shI, SV.den] at q8
    clear hUq hR2
    try dsimp only [Shp.D, Shp.Ds, Shp.dflt] at *
    try simp only [vem, veq, ne_eq, cmpI, arI, dvI, shI, SV.den, elemAt, convL_self] at *
    try dsimp only [Shp.D, Shp.Ds, Shp.dflt, Shp.dflts] at *
    refine ⟨⟨by omega, by omega, ?_⟩, by omega⟩
    rw [show (zq 8).toNat = (z2 8).toNat + 1 by omega]
    exact pick_next (by omega) r3 (.inl h)
end Go.Proofs.Ytiinlanpinanhaa.V
