/- Contracts: narrowed lists (document). -/
import Derived.Test.YtiinlanpinanhaaVNd
set_option linter.unusedVariables false
set_option linter.unusedSimpArgs false
namespace Go.Proofs.Ytiinlanpinanhaa.V
open Go.RowKit
set_option maxHeartbeats 8000000
set_option maxRecDepth 100000
/-! Narrowed lists. -/
structure OkL (l : List SelT) : Prop where
  all : ∀ s ∈ l, (toSel s).ok
theorem OkL.get {l : List SelT} (h : OkL l) {k : Nat} (hk : k < l.length) : (toSel (l.getD k (0, 0, 0, (0, 0, 0, ()), (0, 0, 0, ()), ()))).ok := by
  rw [List.getD_eq_getElem?_getD, List.getElem?_eq_getElem hk]
  exact h.all _ (List.getElem_mem hk)
theorem upF_mem {a : Int} {n : Nat} {x : Int} (h : x ∈ upF a n) : a ≤ x ∧ x < a + n := by
  induction n with
  | zero => cases h
  | succ n ih =>
    unfold upF at h
    rcases List.mem_append.1 h with h | h
    · have := ih h; omega
    · rw [List.mem_singleton] at h; omega
theorem protosF_in {lo hi x : Int} (h0 : 0 ≤ lo) (h1 : hi ≤ 255) (h : x ∈ protosF lo hi) : 0 ≤ x ∧ x ≤ 255 := by
  unfold protosF at h
  split at h
  · rw [List.mem_singleton] at h; omega
  · split at h
    · cases h
    · have := upF_mem h; omega
theorem portsF_in {p q : PrtT} (h : PrtG p) (hq : q ∈ portsF p) : (q.1 = 65535 ∧ q.2.1 = 0) ∨ (0 ≤ q.1 ∧ q.1 ≤ q.2.1 ∧ q.2.1 ≤ 65535) := by
  have h1 := h.lo
  have h2 := h.le
  have h3 := h.hi
  unfold portsF at hq
  obtain ⟨m, hm⟩ : ∃ m, m = (if 0 > p.1 then 0 else p.1) := ⟨_, rfl⟩
  have hm0 : 0 ≤ m := by rw [hm]; split <;> omega
  rw [← hm] at hq
  clear hm
  by_cases hc : p.1 = -1 ∧ p.2.1 = 65535
  · rw [if_pos hc, List.mem_singleton] at hq
    subst hq
    right; decide
  · rw [if_neg hc] at hq
    rcases List.mem_append.1 hq with hq | hq
    · by_cases hc2 : p.1 = -1
      · rw [if_pos hc2, List.mem_singleton] at hq
        subst hq
        left; exact ⟨rfl, rfl⟩
      · rw [if_neg hc2] at hq; cases hq
    · by_cases hc3 : m > p.2.1
      · rw [if_pos hc3] at hq; cases hq
      · rw [if_neg hc3] at hq
        by_cases hc4 : m = 0 ∧ p.2.1 = 65535
        · rw [if_pos hc4] at hq
          rcases List.mem_cons.1 hq with hq | hq
          · subst hq; right; decide
          · rw [List.mem_singleton] at hq; subst hq; right; decide
        · rw [if_neg hc4, List.mem_singleton] at hq
          subst hq
          right
          exact ⟨hm0, by show m ≤ p.2.1; omega, h3⟩
theorem sideL_ok {f : Int} {lo hi : AdrT} {plo phi : Int} {p : PrtT} (hs : SpanP f (toAdr lo) (toAdr hi)) (h0 : 0 ≤ plo) (h1 : phi ≤ 255) (hp : PrtG p) : OkL (sideL lo hi (protosF plo phi) (portsF p)) := by
  refine ⟨fun s hs2 => ?_⟩
  unfold sideL at hs2
  obtain ⟨x, hx, hs2⟩ := List.mem_flatMap.1 hs2
  obtain ⟨q, hq, rfl⟩ := List.mem_map.1 hs2
  obtain ⟨k1, k2, k3⟩ := hs
  exact ⟨k1.ok, k2.ok, k1.fam.trans k2.fam.symm, k3, (protosF_in h0 h1 hx).1, (protosF_in h0 h1 hx).2, portsF_in hp hq⟩
theorem sideF_ok {b : BoxT} (h : BoxG b) (out : Bool) : OkL (sideF b out) := by
  obtain ⟨f, hf, h1, h2⟩ := h.f
  cases out
  · exact sideL_ok h2 h.lo h.hi' h.rp
  · exact sideL_ok h1 h.lo h.hi' h.lp
abbrev rctPre : Shp.Ds [.sl selE, .sl selE] → Prop := fun x => x.1.length ≤ 1000 ∧ x.2.1.length ≤ 1000 ∧ OkL x.1 ∧ OkL x.2.1
abbrev rctSp : Spec := fnSpec [.sl selE, .sl selE] [.sl selE] [30] rctPre fun x y => y.1 = meetsF x.1 x.2.1
def rctC_t : SpecT := lf0 106 (rmeetSp)
def rctC : Cx := ⟨tt, qt, bt, st, rctC_t, 0, 1000000000000000, fun _ => none, false, CxE.no⟩
theorem rctC_si {E : Env} (h : E.ok) : SpecsOk Try.prog E (CxE.no) rctC_t (fun _ => none) := ⟨(lf0_ok (rmt_sp h)), noI_ok _ _ _⟩
theorem rctC_x {E : Env} (h : E.ok) : CxEOk Try.prog E (CxE.no) := CxE.no_ok _ _
theorem rctC_cx (E : Env) (h : E.ok) (h1 : E.lo = 0) (h2 : E.hi = 1000000000000000) : Cx.ok rctC Try.prog E := ⟨tt_ok, qt_ok, bt_ok, rctC_si h, h, h1, h2, mixed_ok, rctC_x h⟩
theorem rctC_from (lo hi : Nat) (E : Env) (h : E.ok) (h1 : E.lo = lo) (h2 : E.hi = hi) : Cx.ok (Cx.from rctC lo hi) Try.prog E := ⟨tt_ok, qt_ok, bt_ok, rctC_si h, h, h1, h2, mixed_ok, rctC_x h⟩
theorem rct_fn : hasFn Try.prog 91 := ⟨_, Try.func91, by rfl, by rfl⟩
theorem rct_sp {E : Env} (hE : E.ok) : SpecOk Try.prog E 91 rctSp := by
  refine spec_of_vc (C := rctC) rct_fn Try.func91 (by kernel_rfl) rctC_cx (fun x hl hx => ?_) hE
  obtain ⟨l, sd, _⟩ := x
  obtain ⟨hx1, hx2, hx3, hx4⟩ := hx
  have hx1 : l.length ≤ 1000 := hx1
  have hx2 : sd.length ≤ 1000 := hx2
  have hx3 : OkL l := hx3
  have hx4 : OkL sd := hx4
  cbv
  (repeat' (first | ((with_reducible refine And.intro (fun h => ?_) (fun h => ?_)) <;> (first | with_reducible exact (tf h (by assumption)).elim | with_reducible exact (tf (by assumption) h).elim | cbv)) | ((with_reducible show JoinT (fun s K => vc _ (Code.region _ _ true) s K) _ _ _ _ _); (with_reducible apply JoinT.mg2); (focus (cbv; (repeat' (first | ((with_reducible refine And.intro (fun h => ?_) (fun h => ?_)) <;> (first | with_reducible exact (tf h (by assumption)).elim | with_reducible exact (tf (by assumption) h).elim | cbv)) | ((with_reducible first | refine Cb.mk ?_ | refine Lz.mk ?_ | refine JoinT.left ?_ | refine AllT.mk (fun x hx => ?_)); cbv) | ((with_reducible refine Ob.mk (fun _ => ?_) ?_); rotate_left 1) | (with_reducible first | refine Mg.mk (Exists.intro ?_ (And.intro ?_ ?_)) | rfl | refine Fin.mk ?_ | exact True.intro | refine And.intro ?_ ?_))); (all_goals (try (have du : Unit := (); have dv : Unit := (); first | exact Goes.self (Ex2.mk ⟨dv, du, trivial, trivial, rfl⟩) | exact Goes.self (Ex2.mk ⟨x, du, hx, trivial, rfl⟩) | (rename_i xa hxa; exact Goes.self (Ex2.mk ⟨xa, x, hxa, hx, rfl⟩))))); (all_goals (fail_if_success (with_reducible first | show Goes _ _ _ _ | show (∃ _, unr _ _ _ _ _ _))))))) | ((with_reducible first | refine Cb.mk ?_ | refine Lz.mk ?_ | refine JoinT.left ?_ | refine AllT.mk (fun x hx => ?_)); cbv) | ((with_reducible refine Ob.mk (fun _ => ?_) ?_); rotate_left 1) | (with_reducible first | refine Mg.mk (Exists.intro ?_ (And.intro ?_ ?_)) | rfl | refine Fin.mk ?_ | exact True.intro | refine And.intro ?_ ?_)))
  with_reducible refine loop_hv [(5, 900000, 30, selE)] (7 :: 8 :: 9 :: rangeN 10 30) [] [900000] (fun z b t y => 0 ≤ z 6 ∧ z 6 ≤ (l.length : Int) ∧ y 900000 selE = meetsF (l.take (z 6).toNat) sd) (fun z b t y => ((l.length : Int) - z 6).toNat) (by cbv) (by cbv) ?_ ?_ (fun z1 b1 t1 u1 y1 R1 hP1 hR1 => ?_)
  · refine EndOk.mk (by cbv) (by cbv) (by cbv; repeat' (first | exact True.intro | exact rfl | with_reducible refine And.intro ?_ ?_)) (by cbv; repeat' (first | exact True.intro | exact rfl | with_reducible refine And.intro ?_ ?_)) (by cbv; repeat' (first | exact True.intro | exact rfl | with_reducible refine And.intro ?_ ?_))
  · intro zq bq tq yq hUq
    have q6 := hUq.z 6
    cbv at q6
    replace q6 := q6.eq
    simp only [atI, vem, veq, ne_eq, cmpI, arI, dvI, shI, SV.den] at q6
    have qy900000 := hUq.y 900000 (selE)
    cbv at qy900000
    replace qy900000 := qy900000.eq
    simp only [atY, convL_self, vem, veq, ne_eq, cmpI, arI, dvI, shI, SV.den] at qy900000
    clear hUq
    try dsimp only [Shp.D, Shp.Ds, Shp.dflt] at *
    try simp only [vem, veq, ne_eq, cmpI, arI, dvI, shI, SV.den, convL_self] at *
    rw [← q6, ← qy900000]
    exact ⟨by omega, by omega, rfl⟩
  obtain ⟨p1, p2, p3⟩ := hP1
  have p4 : (y1 900000 selE).length ≤ 1000000 := by
    rw [p3]
    refine Nat.le_trans (meetsF_length _ _) ?_
    have h1 : (l.take (z1 6).toNat).length ≤ 1000 := by rw [List.length_take]; omega
    exact Nat.mul_le_mul h1 hx2
  cbv
  (repeat' (first | ((with_reducible refine And.intro (fun h => ?_) (fun h => ?_)) <;> (first | with_reducible exact (tf h (by assumption)).elim | with_reducible exact (tf (by assumption) h).elim | cbv)) | ((with_reducible show JoinT (fun s K => vc _ (Code.region _ _ true) s K) _ _ _ _ _); (with_reducible apply JoinT.mg2); (focus (cbv; (repeat' (first | ((with_reducible refine And.intro (fun h => ?_) (fun h => ?_)) <;> (first | with_reducible exact (tf h (by assumption)).elim | with_reducible exact (tf (by assumption) h).elim | cbv)) | ((with_reducible first | refine Cb.mk ?_ | refine Lz.mk ?_ | refine JoinT.left ?_ | refine AllT.mk (fun x hx => ?_)); cbv) | ((with_reducible refine Ob.mk (fun _ => ?_) ?_); rotate_left 1) | (with_reducible first | refine Mg.mk (Exists.intro ?_ (And.intro ?_ ?_)) | rfl | refine Fin.mk ?_ | exact True.intro | refine And.intro ?_ ?_))); (all_goals (try (have du : Unit := (); have dv : Unit := (); first | exact Goes.self (Ex2.mk ⟨dv, du, trivial, trivial, rfl⟩) | exact Goes.self (Ex2.mk ⟨x, du, hx, trivial, rfl⟩) | (rename_i xa hxa; exact Goes.self (Ex2.mk ⟨xa, x, hxa, hx, rfl⟩))))); (all_goals (fail_if_success (with_reducible first | show Goes _ _ _ _ | show (∃ _, unr _ _ _ _ _ _))))))) | ((with_reducible first | refine Cb.mk ?_ | refine Lz.mk ?_ | refine JoinT.left ?_ | refine AllT.mk (fun x hx => ?_)); cbv) | ((with_reducible refine Ob.mk (fun _ => ?_) ?_); rotate_left 1) | (with_reducible first | refine Mg.mk (Exists.intro ?_ (And.intro ?_ ?_)) | rfl | refine Fin.mk ?_ | exact True.intro | refine And.intro ?_ ?_)))
  all_goals first | (with_reducible show (∃ _, unr _ _ _ _ _ _); skip) | (with_reducible show Goes _ _ _ _; skip) | (with_reducible show JoinT _ _ _ _ _ _; skip) | (first | ((try dsimp only [Shp.D, Shp.Ds, Shp.dflt] at *); simp only [vem, veq, ne_eq, cmpI, arI, dvI, shI, SV.den, obLt, elemAt, obApp, partL, obPart, lowD, highD, mxOk, convL_self, zerosB, List.length_replicate, vln] at *; (try dsimp only [Shp.D, Shp.Ds, Shp.dflt, Shp.dflts] at *); done) | ((try dsimp only [Shp.D, Shp.Ds, Shp.dflt] at *); simp only [vem, veq, ne_eq, cmpI, arI, dvI, shI, SV.den, obLt, elemAt, obApp, partL, obPart, lowD, highD, mxOk, convL_self, zerosB, List.length_replicate, vln] at *; (try dsimp only [Shp.D, Shp.Ds, Shp.dflt, Shp.dflts] at *); omega) | ((try dsimp only [Shp.D, Shp.Ds, Shp.dflt] at *); simp only [vem, veq, ne_eq, cmpI, arI, dvI, shI, SV.den, obLt, elemAt, obApp, partL, obPart, lowD, highD, mxOk, convL_self, zerosB, List.length_replicate, vln] at *; (try dsimp only [Shp.D, Shp.Ds, Shp.dflt, Shp.dflts] at *); rw [p3, List.take_of_length_le (by omega)]))
  with_reducible refine loop_hv [] (8 :: 9 :: rangeN 16 24) [] [900000] (fun z b t y => 0 ≤ z 7 ∧ z 7 ≤ (sd.length : Int) ∧ y 900000 selE = meetsF (l.take (z1 6).toNat) sd ++ (sd.take (z 7).toNat).filterMap (meetT (l.getD (z1 6).toNat (0, 0, 0, (0, 0, 0, ()), (0, 0, 0, ()), ())))) (fun z b t y => ((sd.length : Int) - z 7).toNat) (by cbv) (by cbv) ?_ ?_ (fun z2 b2 t2 u2 y2 R2 hP2 hR2 => ?_)
  · refine EndOk.mk (by cbv) (by cbv) (by cbv; repeat' (first | exact True.intro | exact rfl | with_reducible refine And.intro ?_ ?_)) (by cbv; repeat' (first | exact True.intro | exact rfl | with_reducible refine And.intro ?_ ?_)) (by cbv; repeat' (first | exact True.intro | exact rfl | with_reducible refine And.intro ?_ ?_))
  · intro zq bq tq yq hUq
    have q7 := hUq.z 7
    cbv at q7
    replace q7 := q7.eq
    simp only [atI, vem, veq, ne_eq, cmpI, arI, dvI, shI, SV.den] at q7
    have qy900000 := hUq.y 900000 (selE)
    cbv at qy900000
    replace qy900000 := qy900000.eq
    simp only [atY, convL_self, vem, veq, ne_eq, cmpI, arI, dvI, shI, SV.den] at qy900000
    clear hUq
    try dsimp only [Shp.D, Shp.Ds, Shp.dflt] at *
    try simp only [vem, veq, ne_eq, cmpI, arI, dvI, shI, SV.den, convL_self] at *
    rw [← q7, ← qy900000]
    exact ⟨by omega, by omega, by rw [p3]; simp⟩
  obtain ⟨r1, r2, r3⟩ := hP2
  have r4 : (y2 900000 selE).length ≤ 1001000 := by
    rw [r3, List.length_append, ← p3]
    have h1 := List.length_filterMap_le (meetT (l.getD (z1 6).toNat (0, 0, 0, (0, 0, 0, ()), (0, 0, 0, ()), ()))) (sd.take (z2 7).toNat)
    rw [List.length_take] at h1
    omega
  cbv
  (repeat' (first | ((with_reducible refine And.intro (fun h => ?_) (fun h => ?_)) <;> (first | with_reducible exact (tf h (by assumption)).elim | with_reducible exact (tf (by assumption) h).elim | cbv)) | ((with_reducible show JoinT (fun s K => vc _ (Code.region _ _ true) s K) _ _ _ _ _); (with_reducible apply JoinT.mg2); (focus (cbv; (repeat' (first | ((with_reducible refine And.intro (fun h => ?_) (fun h => ?_)) <;> (first | with_reducible exact (tf h (by assumption)).elim | with_reducible exact (tf (by assumption) h).elim | cbv)) | ((with_reducible first | refine Cb.mk ?_ | refine Lz.mk ?_ | refine JoinT.left ?_ | refine AllT.mk (fun x hx => ?_)); cbv) | ((with_reducible refine Ob.mk (fun _ => ?_) ?_); rotate_left 1) | (with_reducible first | refine Mg.mk (Exists.intro ?_ (And.intro ?_ ?_)) | rfl | refine Fin.mk ?_ | exact True.intro | refine And.intro ?_ ?_))); (all_goals (try (have du : Unit := (); have dv : Unit := (); first | exact Goes.self (Ex2.mk ⟨dv, du, trivial, trivial, rfl⟩) | exact Goes.self (Ex2.mk ⟨x, du, hx, trivial, rfl⟩) | (rename_i xa hxa; exact Goes.self (Ex2.mk ⟨xa, x, hxa, hx, rfl⟩))))); (all_goals (fail_if_success (with_reducible first | show Goes _ _ _ _ | show (∃ _, unr _ _ _ _ _ _))))))) | ((with_reducible first | refine Cb.mk ?_ | refine Lz.mk ?_ | refine JoinT.left ?_ | refine AllT.mk (fun x hx => ?_)); cbv) | ((with_reducible refine Ob.mk (fun _ => ?_) ?_); rotate_left 1) | (with_reducible first | refine Mg.mk (Exists.intro ?_ (And.intro ?_ ?_)) | rfl | refine Fin.mk ?_ | exact True.intro | refine And.intro ?_ ?_)))
  all_goals first | (with_reducible show (∃ _, unr _ _ _ _ _ _); skip) | (with_reducible show Goes _ _ _ _; skip) | (with_reducible show JoinT _ _ _ _ _ _; skip) | (first | ((try dsimp only [Shp.D, Shp.Ds, Shp.dflt] at *); simp only [vem, veq, ne_eq, cmpI, arI, dvI, shI, SV.den, obLt, elemAt, obApp, partL, obPart, lowD, highD, mxOk, convL_self, zerosB, List.length_replicate, vln] at *; (try dsimp only [Shp.D, Shp.Ds, Shp.dflt, Shp.dflts] at *); done) | ((try dsimp only [Shp.D, Shp.Ds, Shp.dflt] at *); simp only [vem, veq, ne_eq, cmpI, arI, dvI, shI, SV.den, obLt, elemAt, obApp, partL, obPart, lowD, highD, mxOk, convL_self, zerosB, List.length_replicate, vln] at *; (try dsimp only [Shp.D, Shp.Ds, Shp.dflt, Shp.dflts] at *); omega) | (try ((try dsimp only [Shp.D, Shp.Ds, Shp.dflt] at *); simp only [vem, veq, ne_eq, cmpI, arI, dvI, shI, SV.den, obLt, elemAt, obApp, partL, obPart, lowD, highD, mxOk, convL_self, zerosB, List.length_replicate, vln] at *; (try dsimp only [Shp.D, Shp.Ds, Shp.dflt, Shp.dflts] at *))))
  · with_reducible refine hR2 _ ?_ (fun zq bq tq yq hUq => ?_)
    · refine EndOk.mk (by cbv) (by cbv) (by cbv; repeat' (first | exact True.intro | exact rfl | with_reducible refine And.intro ?_ ?_)) (by cbv; repeat' (first | exact True.intro | exact rfl | with_reducible refine And.intro ?_ ?_)) (by cbv; repeat' (first | exact True.intro | exact rfl | with_reducible refine And.intro ?_ ?_))
    have q7 := hUq.z 7
    cbv at q7
    replace q7 := q7.eq
    simp only [atI, vem, veq, ne_eq, cmpI, arI, dvI, shI, SV.den] at q7
    have qy900000 := hUq.y 900000 (selE)
    cbv at qy900000
    replace qy900000 := qy900000.eq
    simp only [atY, convL_self, vem, veq, ne_eq, cmpI, arI, dvI, shI, SV.den] at qy900000
    clear hUq hR2
    try dsimp only [Shp.D, Shp.Ds, Shp.dflt] at *
    try simp only [vem, veq, ne_eq, cmpI, arI, dvI, shI, SV.den, elemAt, convL_self] at *
    try dsimp only [Shp.D, Shp.Ds, Shp.dflt, Shp.dflts] at *
    refine ⟨⟨by omega, by omega, ?_⟩, by omega⟩
    have hm := hx.1
    rw [rmeet_eq (hx3.get (by omega)) (hx4.get (by omega))] at hm
    rw [← qy900000, r3, show (zq 7).toNat = (z2 7).toNat + 1 by omega, filterMap_take1 _ sd (0, 0, 0, (0, 0, 0, ()), (0, 0, 0, ()), ()) (by omega), List.append_assoc, meetT_yes hm h]
    rfl
  · with_reducible refine hR2 _ ?_ (fun zq bq tq yq hUq => ?_)
    · refine EndOk.mk (by cbv) (by cbv) (by cbv; repeat' (first | exact True.intro | exact rfl | with_reducible refine And.intro ?_ ?_)) (by cbv; repeat' (first | exact True.intro | exact rfl | with_reducible refine And.intro ?_ ?_)) (by cbv; repeat' (first | exact True.intro | exact rfl | with_reducible refine And.intro ?_ ?_))
    have q7 := hUq.z 7
    cbv at q7
    replace q7 := q7.eq
    simp only [atI, vem, veq, ne_eq, cmpI, arI, dvI, shI, SV.den] at q7
    have qy900000 := hUq.y 900000 (selE)
    cbv at qy900000
    replace qy900000 := qy900000.eq
    simp only [atY, convL_self, vem, veq, ne_eq, cmpI, arI, dvI, shI, SV.den] at qy900000
    clear hUq hR2
    try dsimp only [Shp.D, Shp.Ds, Shp.dflt] at *
    try simp only [vem, veq, ne_eq, cmpI, arI, dvI, shI, SV.den, elemAt, convL_self] at *
    try dsimp only [Shp.D, Shp.Ds, Shp.dflt, Shp.dflts] at *
    refine ⟨⟨by omega, by omega, ?_⟩, by omega⟩
    have hm := hx.1
    rw [rmeet_eq (hx3.get (by omega)) (hx4.get (by omega))] at hm
    rw [← qy900000, r3, show (zq 7).toNat = (z2 7).toNat + 1 by omega, filterMap_take1 _ sd (0, 0, 0, (0, 0, 0, ()), (0, 0, 0, ()), ()) (by omega), meetT_no hm h]
    simp
  · with_reducible refine hR1 _ ?_ (fun zq bq tq yq hUq => ?_)
    · refine EndOk.mk (by cbv) (by cbv) (by cbv; repeat' (first | exact True.intro | exact rfl | with_reducible refine And.intro ?_ ?_)) (by cbv; repeat' (first | exact True.intro | exact rfl | with_reducible refine And.intro ?_ ?_)) (by cbv; repeat' (first | exact True.intro | exact rfl | with_reducible refine And.intro ?_ ?_))
    have q6 := hUq.z 6
    cbv at q6
    replace q6 := q6.eq
    simp only [atI, vem, veq, ne_eq, cmpI, arI, dvI, shI, SV.den] at q6
    have qy900000 := hUq.y 900000 (selE)
    cbv at qy900000
    replace qy900000 := qy900000.eq
    simp only [atY, convL_self, vem, veq, ne_eq, cmpI, arI, dvI, shI, SV.den] at qy900000
    clear hUq hR1
    try dsimp only [Shp.D, Shp.Ds, Shp.dflt] at *
    try simp only [vem, veq, ne_eq, cmpI, arI, dvI, shI, SV.den, elemAt, convL_self] at *
    try dsimp only [Shp.D, Shp.Ds, Shp.dflt, Shp.dflts] at *
    refine ⟨⟨by omega, by omega, ?_⟩, by omega⟩
    rw [← qy900000, r3, show (zq 6).toNat = (z1 6).toNat + 1 by omega, List.take_of_length_le (l := sd) (by omega)]
    exact (fm_take (fun s => sd.filterMap (meetT s)) l (0, 0, 0, (0, 0, 0, ()), (0, 0, 0, ()), ()) (by omega)).symm
abbrev rnwPre : Shp.Ds [.sl selE, .sl selE, boxE] → Prop := fun x => x.1.length ≤ 1000 ∧ x.2.1.length ≤ 1000 ∧ OkL x.1 ∧ OkL x.2.1 ∧ BoxG x.2.2.1
abbrev rnwSp : Spec := fnSpec [.sl selE, .sl selE, boxE] [.sl selE, .sl selE, .int .i64] [30, 30] rnwPre fun x y => (y.1, y.2.1, y.2.2.1) = narrowF x.1 x.2.1 x.2.2.1
def rnwC_t : SpecT := nd0 91 (lf0 48 (rsdeSp)) (lf0 91 (rctSp))
def rnwC : Cx := ⟨tt, qt, bt, st, rnwC_t, 0, 1000000000000000, fun _ => none, false, CxE.no⟩
theorem rnwC_si {E : Env} (h : E.ok) : SpecsOk Try.prog E (CxE.no) rnwC_t (fun _ => none) := ⟨(nd0_ok (lf0_ok (rsde_sp h)) (lf0_ok (rct_sp h))), noI_ok _ _ _⟩
theorem rnwC_x {E : Env} (h : E.ok) : CxEOk Try.prog E (CxE.no) := CxE.no_ok _ _
theorem rnwC_cx (E : Env) (h : E.ok) (h1 : E.lo = 0) (h2 : E.hi = 1000000000000000) : Cx.ok rnwC Try.prog E := ⟨tt_ok, qt_ok, bt_ok, rnwC_si h, h, h1, h2, mixed_ok, rnwC_x h⟩
theorem rnwC_from (lo hi : Nat) (E : Env) (h : E.ok) (h1 : E.lo = lo) (h2 : E.hi = hi) : Cx.ok (Cx.from rnwC lo hi) Try.prog E := ⟨tt_ok, qt_ok, bt_ok, rnwC_si h, h, h1, h2, mixed_ok, rnwC_x h⟩
theorem rnw_fn : hasFn Try.prog 49 := ⟨_, Try.func49, by rfl, by rfl⟩
theorem rnw_sp {E : Env} (hE : E.ok) : SpecOk Try.prog E 49 rnwSp := by
  refine spec_of_vc (C := rnwC) rnw_fn Try.func49 (by kernel_rfl) rnwC_cx (fun x hl hx => ?_) hE
  obtain ⟨l, r, ⟨⟨f1, h1, l1, ⟨⟩⟩, ⟨f2, h2, l2, ⟨⟩⟩, ⟨f3, h3, l3, ⟨⟩⟩, ⟨f4, h4, l4, ⟨⟩⟩, plo, phi, ⟨a1, a2, ⟨⟩⟩, ⟨c1, c2, ⟨⟩⟩, ⟨⟩⟩, ⟨⟩⟩ := x
  obtain ⟨g1, g2, g3, g4, g5⟩ := hx
  have g1 : l.length ≤ 1000 := g1
  have g2 : r.length ≤ 1000 := g2
  have g3 : OkL l := g3
  have g4 : OkL r := g4
  have g5 : BoxG ((f1, h1, l1, ()), (f2, h2, l2, ()), (f3, h3, l3, ()), (f4, h4, l4, ()), plo, phi, (a1, a2, ()), (c1, c2, ()), ()) := g5
  cbv
  (repeat' (first | ((with_reducible refine And.intro (fun h => ?_) (fun h => ?_)) <;> (first | with_reducible exact (tf h (by assumption)).elim | with_reducible exact (tf (by assumption) h).elim | cbv)) | ((with_reducible show JoinT (fun s K => vc _ (Code.region _ _ true) s K) _ _ _ _ _); (with_reducible apply JoinT.mg2); (focus (cbv; (repeat' (first | ((with_reducible refine And.intro (fun h => ?_) (fun h => ?_)) <;> (first | with_reducible exact (tf h (by assumption)).elim | with_reducible exact (tf (by assumption) h).elim | cbv)) | ((with_reducible first | refine Cb.mk ?_ | refine Lz.mk ?_ | refine JoinT.left ?_ | refine AllT.mk (fun x hx => ?_)); cbv) | ((with_reducible refine Ob.mk (fun _ => ?_) ?_); rotate_left 1) | (with_reducible first | refine Mg.mk (Exists.intro ?_ (And.intro ?_ ?_)) | rfl | refine Fin.mk ?_ | exact True.intro | refine And.intro ?_ ?_))); (all_goals (try (have du : Unit := (); have dv : Unit := (); first | exact Goes.self (Ex2.mk ⟨dv, du, trivial, trivial, rfl⟩) | exact Goes.self (Ex2.mk ⟨x, du, hx, trivial, rfl⟩) | (rename_i xa hxa; exact Goes.self (Ex2.mk ⟨xa, x, hxa, hx, rfl⟩))))); (all_goals (fail_if_success (with_reducible first | show Goes _ _ _ _ | show (∃ _, unr _ _ _ _ _ _))))))) | ((with_reducible first | refine Cb.mk ?_ | refine Lz.mk ?_ | refine JoinT.left ?_ | refine AllT.mk (fun x hx => ?_)); cbv) | ((with_reducible refine Ob.mk (fun _ => ?_) ?_); rotate_left 1) | (with_reducible first | refine Mg.mk (Exists.intro ?_ (And.intro ?_ ?_)) | rfl | refine Fin.mk ?_ | exact True.intro | refine And.intro ?_ ?_)))
  all_goals first | (with_reducible show (∃ _, unr _ _ _ _ _ _); skip) | (with_reducible show Goes _ _ _ _; skip) | (with_reducible show JoinT _ _ _ _ _ _; skip) | (first | ((try dsimp only [Shp.D, Shp.Ds, Shp.dflt] at *); simp only [vem, veq, ne_eq, cmpI, arI, dvI, shI, SV.den, obLt, elemAt, obApp, partL, obPart, lowD, highD, mxOk, convL_self, zerosB, List.length_replicate, vln] at *; (try dsimp only [Shp.D, Shp.Ds, Shp.dflt, Shp.dflts] at *); done) | ((try dsimp only [Shp.D, Shp.Ds, Shp.dflt] at *); simp only [vem, veq, ne_eq, cmpI, arI, dvI, shI, SV.den, obLt, elemAt, obApp, partL, obPart, lowD, highD, mxOk, convL_self, zerosB, List.length_replicate, vln] at *; (try dsimp only [Shp.D, Shp.Ds, Shp.dflt, Shp.dflts] at *); omega) | ((try dsimp only [Shp.D, Shp.Ds, Shp.dflt] at *); simp only [vem, veq, ne_eq, cmpI, arI, dvI, shI, SV.den, obLt, elemAt, obApp, partL, obPart, lowD, highD, mxOk, convL_self, zerosB, List.length_replicate, vln] at *; (try dsimp only [Shp.D, Shp.Ds, Shp.dflt, Shp.dflts] at *); rw [hx.1]; exact Nat.le_trans (sideF_length _ _) (by decide)) | ((try dsimp only [Shp.D, Shp.Ds, Shp.dflt] at *); simp only [vem, veq, ne_eq, cmpI, arI, dvI, shI, SV.den, obLt, elemAt, obApp, partL, obPart, lowD, highD, mxOk, convL_self, zerosB, List.length_replicate, vln] at *; (try dsimp only [Shp.D, Shp.Ds, Shp.dflt, Shp.dflts] at *); exact narrow_17 (‹_ = sideF _ true ∧ _›).1 (‹_ = sideF _ false ∧ _›).1 (‹_ = meetsF l _ ∧ _›).1 (‹_ = meetsF r _ ∧ _›).1 (by omega)) | ((try dsimp only [Shp.D, Shp.Ds, Shp.dflt] at *); simp only [vem, veq, ne_eq, cmpI, arI, dvI, shI, SV.den, obLt, elemAt, obApp, partL, obPart, lowD, highD, mxOk, convL_self, zerosB, List.length_replicate, vln] at *; (try dsimp only [Shp.D, Shp.Ds, Shp.dflt, Shp.dflts] at *); exact narrow_10 (‹_ = sideF _ true ∧ _›).1 (‹_ = sideF _ false ∧ _›).1 (‹_ = meetsF l _ ∧ _›).1 (‹_ = meetsF r _ ∧ _›).1 (by omega) (by omega) (by omega)) | ((try dsimp only [Shp.D, Shp.Ds, Shp.dflt] at *); simp only [vem, veq, ne_eq, cmpI, arI, dvI, shI, SV.den, obLt, elemAt, obApp, partL, obPart, lowD, highD, mxOk, convL_self, zerosB, List.length_replicate, vln] at *; (try dsimp only [Shp.D, Shp.Ds, Shp.dflt, Shp.dflts] at *); exact narrow_0 (‹_ = sideF _ true ∧ _›).1 (‹_ = sideF _ false ∧ _›).1 (‹_ = meetsF l _ ∧ _›).1 (‹_ = meetsF r _ ∧ _›).1 (by omega) (by omega) (by omega) (by omega)) | ((try dsimp only [Shp.D, Shp.Ds, Shp.dflt] at *); simp only [vem, veq, ne_eq, cmpI, arI, dvI, shI, SV.den, obLt, elemAt, obApp, partL, obPart, lowD, highD, mxOk, convL_self, zerosB, List.length_replicate, vln] at *; (try dsimp only [Shp.D, Shp.Ds, Shp.dflt, Shp.dflts] at *); assumption) | ((try dsimp only [Shp.D, Shp.Ds, Shp.dflt] at *); simp only [vem, veq, ne_eq, cmpI, arI, dvI, shI, SV.den, obLt, elemAt, obApp, partL, obPart, lowD, highD, mxOk, convL_self, zerosB, List.length_replicate, vln] at *; (try dsimp only [Shp.D, Shp.Ds, Shp.dflt, Shp.dflts] at *); rw [hx.1]; exact sideF_ok g5 _))
end Go.Proofs.Ytiinlanpinanhaa.V
