/- Contract: the corners of rules (what is said of them: each is a packet, and there are at most 1024). -/
import Derived.Test.YtiinlanpinanhaaVNq
import Derived.Test.YtiinlanpinanhaaVNc
set_option linter.unusedVariables false
set_option linter.unusedSimpArgs false
namespace Go.Proofs.Ytiinlanpinanhaa.V
open Go.RowKit
set_option maxHeartbeats 8000000
set_option maxRecDepth 100000
abbrev ruleE : Shp := .st [.int .i64, .str, .sl boxE]
abbrev RuleT : Type := Int × ByteArray × List BoxT × Unit
abbrev boxD : BoxT := ((0, 0, 0, ()), (0, 0, 0, ()), (0, 0, 0, ()), (0, 0, 0, ()), 0, 0, (0, 0, ()), (0, 0, ()), ())
abbrev ruleD : RuleT := (0, ByteArray.empty, [], ())
structure RulO (l : List RuleT) : Prop where
  len : l.length ≤ 4
  bx : ∀ r ∈ l, ∀ b ∈ r.2.2.1, BoxG b
  nb : ∀ r ∈ l, r.2.2.1.length ≤ 2
structure CorG (l : List PktT) : Prop where
  len : l.length ≤ 1024
  all : ∀ p ∈ l, PktG p
theorem RulO.get {l : List RuleT} (h : RulO l) {k i : Int} (k0 : 0 ≤ k) (k1 : k < (l.length : Int)) (i0 : 0 ≤ i) (i1 : i < ((l.getD k.toNat ruleD).2.2.1.length : Int)) : BoxG ((l.getD k.toNat ruleD).2.2.1.getD i.toNat boxD) := by
  have hk : k.toNat < l.length := by omega
  rw [List.getD_eq_getElem?_getD (l := l), List.getElem?_eq_getElem hk] at i1 ⊢
  rw [List.getD_eq_getElem?_getD, List.getElem?_eq_getElem (by simpa using (show i.toNat < l[k.toNat].2.2.1.length by simp only [Option.getD_some] at i1; omega))]
  exact h.bx _ (List.getElem_mem hk) _ (List.getElem_mem _)
theorem RulO.nbk {l : List RuleT} (h : RulO l) {k : Int} (k0 : 0 ≤ k) (k1 : k < (l.length : Int)) : (l.getD k.toNat ruleD).2.2.1.length ≤ 2 := by
  have hk : k.toNat < l.length := by omega
  rw [List.getD_eq_getElem?_getD, List.getElem?_eq_getElem hk]
  exact h.nb _ (List.getElem_mem hk)
def W6 (n : Int) : Int := (n + 9223372036854775808) % 18446744073709551616 - 9223372036854775808
theorem W6_id {n : Int} (h0 : 0 ≤ n) (h1 : n ≤ 1024) : W6 n = n := by unfold W6; omega
/-- Lengths of ends. -/
structure L24 (n : Nat) : Prop where
  lo : 2 ≤ n
  hi : n ≤ 4
theorem mul_b {a B : Int} {n : Nat} (h0 : 0 ≤ a) (h1 : a ≤ B) (hn : L24 n) : 0 ≤ a * n ∧ a * n ≤ B * 4 := by
  have h2 := hn.lo; have h3 := hn.hi
  exact ⟨Int.mul_nonneg h0 (by omega), Int.mul_le_mul h1 (by omega) (by omega) (by omega)⟩
theorem quo_b {n B : Int} {z : Nat} (h0 : 0 ≤ n) (hB : n < B * z) (h1 : n ≤ 1024) (hz : L24 z) : W6 (n.tdiv z) = n / z ∧ 0 ≤ n / z ∧ n / z < B ∧ n / z ≤ 1024 ∧ 0 ≤ n.tmod z ∧ n.tmod z < z := by
  have h2 := hz.lo
  have e := Int.tdiv_eq_ediv_of_nonneg (b := (z : Int)) h0
  have k0 : 0 ≤ n / (z : Int) := Int.ediv_nonneg h0 (by omega)
  have k1 : n / (z : Int) ≤ n := Int.ediv_le_self _ h0
  have k2 : n / (z : Int) < B := Int.ediv_lt_of_lt_mul (by omega) hB
  refine ⟨?_, k0, k2, by omega, Int.tmod_nonneg _ h0, Int.tmod_lt_of_pos _ (by omega)⟩
  rw [e]
  exact W6_id k0 (by omega)
/-- Where a corner's points lie. -/
structure CorX (n : Int) (v w x y z : Nat) : Prop where
  n0 : 0 ≤ n
  n1 : n < 1024
  a1 : 0 ≤ n.tmod z ∧ n.tmod z < z
  a2 : 0 ≤ (W6 (n.tdiv z)).tmod y ∧ (W6 (n.tdiv z)).tmod y < y
  a3 : 0 ≤ (W6 ((W6 (n.tdiv z)).tdiv y)).tmod x ∧ (W6 ((W6 (n.tdiv z)).tdiv y)).tmod x < x
  a4 : 0 ≤ (W6 ((W6 ((W6 (n.tdiv z)).tdiv y)).tdiv x)).tmod w ∧ (W6 ((W6 ((W6 (n.tdiv z)).tdiv y)).tdiv x)).tmod w < w
  a5 : 0 ≤ W6 ((W6 ((W6 ((W6 (n.tdiv z)).tdiv y)).tdiv x)).tdiv w) ∧ W6 ((W6 ((W6 ((W6 (n.tdiv z)).tdiv y)).tdiv x)).tdiv w) < v
theorem cor_x {n : Int} {v w x y z : Nat} (hv : L24 v) (hw : L24 w) (hx : L24 x) (hy : L24 y) (hz : L24 z) (h0 : 0 ≤ n) (h : n < W6 (W6 (W6 (W6 ((v : Int) * w) * x) * y) * z)) : CorX n v w x y z := by
  have hv1 := hv.lo; have hv2 := hv.hi
  obtain ⟨b0, b1⟩ := mul_b (a := (v : Int)) (B := 4) (by omega) (by omega) hw
  rw [W6_id b0 (by omega)] at h
  obtain ⟨c0, c1⟩ := mul_b b0 b1 hx
  rw [W6_id c0 (by omega)] at h
  obtain ⟨d0, d1⟩ := mul_b c0 c1 hy
  rw [W6_id d0 (by omega)] at h
  obtain ⟨f0, f1⟩ := mul_b d0 d1 hz
  rw [W6_id f0 (by omega)] at h
  obtain ⟨p1, p2, p3, p4, p5, p6⟩ := quo_b h0 h (by omega) hz
  obtain ⟨q1, q2, q3, q4, q5, q6⟩ := quo_b p2 p3 p4 hy
  obtain ⟨r1, r2, r3, r4, r5, r6⟩ := quo_b q2 q3 q4 hx
  obtain ⟨s1, s2, s3, s4, s5, s6⟩ := quo_b r2 r3 r4 hw
  exact ⟨h0, by omega, ⟨p5, p6⟩, by rw [p1]; exact ⟨q5, q6⟩, by rw [p1, q1]; exact ⟨r5, r6⟩, by rw [p1, q1, r1]; exact ⟨s5, s6⟩, by rw [p1, q1, r1, s1]; exact ⟨s2, s3⟩⟩
theorem EndG.l {k : Int} {l : List AdrT} (h : EndG k l) : L24 l.length := ⟨h.l2, h.l4⟩
theorem EndG.at {k : Int} {l : List AdrT} (h : EndG k l) {i : Int} (i0 : 0 ≤ i) (i1 : i < (l.length : Int)) : (toAdr (l.getD i.toNat (0, 0, 0, ()))).ok := by
  rw [List.getD_eq_getElem?_getD, List.getElem?_eq_getElem (by omega : i.toNat < l.length)]
  exact h.ok _ (List.getElem_mem _)
theorem EndG.pr2 {l : List AdrT} (h : EndG 2 l) {i : Int} (i0 : 0 ≤ i) (i1 : i < (l.length : Int)) : 1 ≤ (l.getD i.toNat (0, 0, 0, ())).2.2.1 ∧ (l.getD i.toNat (0, 0, 0, ())).2.2.1 ≤ 256 := by
  rw [List.getD_eq_getElem?_getD, List.getElem?_eq_getElem (by omega : i.toNat < l.length)]
  exact h.pr rfl _ (List.getElem_mem _)
theorem cor_add {l : List PktT} {p : PktT} (h : CorG l) (hl : ¬ (l.length : Int) ≥ 1024) (hp : PktG p) : CorG (l ++ [p]) := by
  refine ⟨by rw [List.length_append]; simp only [List.length_cons, List.length_nil]; omega, fun q hq => ?_⟩
  rcases List.mem_append.1 hq with hq | hq
  · exact h.all q hq
  · rw [List.mem_singleton] at hq; rw [hq]; exact hp
theorem cor_pkt {v w x : List AdrT} {q4 q3 q2 s t : Int} (c0 : EndG 0 v) (c1 : EndG 1 w) (c2 : EndG 2 x) (h4 : 0 ≤ q4 ∧ q4 < (v.length : Int)) (h3 : 0 ≤ q3 ∧ q3 < (w.length : Int)) (h2 : 0 ≤ q2 ∧ q2 < (x.length : Int)) :
    PktG (v.getD q4.toNat (0, 0, 0, ()), w.getD q3.toNat (0, 0, 0, ()), W6 (W6 (x.getD q2.toNat (0, 0, 0, ())).2.2.1 - 1), s, t, ()) := by
  have h := c2.pr2 h2.1 h2.2
  refine ⟨c0.at h4.1 h4.2, c1.at h3.1 h3.2, ?_, ?_⟩
  · show 0 ≤ W6 (W6 (x.getD q2.toNat (0, 0, 0, ())).2.2.1 - 1)
    generalize (x.getD q2.toNat (0, 0, 0, ())).2.2.1 = n at h
    unfold W6; omega
  · show W6 (W6 (x.getD q2.toNat (0, 0, 0, ())).2.2.1 - 1) ≤ 255
    generalize (x.getD q2.toNat (0, 0, 0, ())).2.2.1 = n at h
    unfold W6; omega
theorem cor_j {i j : Int} {n : Nat} (h0 : 0 ≤ i) (h1 : i < (n : Int)) (hj : (i + 1 + 9223372036854775808) % 18446744073709551616 - 9223372036854775808 = j) (hn : n ≤ 2) : 0 ≤ j ∧ j ≤ (n : Int) ∧ ((n : Int) - j).toNat < ((n : Int) - i).toNat := by omega
def crC_t : SpecT := lf0 92 (endSp)
def crC : Cx := ⟨tt, qt, bt, st, crC_t, 0, 1000000000000000, fun _ => none, false, CxE.no⟩
theorem crC_si {E : Env} (h : E.ok) : SpecsOk Try.prog E (CxE.no) crC_t (fun _ => none) := ⟨(lf0_ok (end_sp h)), noI_ok _ _ _⟩
theorem crC_x {E : Env} (h : E.ok) : CxEOk Try.prog E (CxE.no) := CxE.no_ok _ _
theorem crC_cx (E : Env) (h : E.ok) (h1 : E.lo = 0) (h2 : E.hi = 1000000000000000) : Cx.ok crC Try.prog E := ⟨tt_ok, qt_ok, bt_ok, crC_si h, h, h1, h2, mixed_ok, crC_x h⟩
theorem crC_from (lo hi : Nat) (E : Env) (h : E.ok) (h1 : E.lo = lo) (h2 : E.hi = hi) : Cx.ok (Cx.from crC lo hi) Try.prog E := ⟨tt_ok, qt_ok, bt_ok, crC_si h, h, h1, h2, mixed_ok, crC_x h⟩
abbrev crSp : Spec := fnSpec [.sl ruleE, .int .i64] [.sl pktE] [39] (fun x => RulO x.1 ∧ x.2.1 = 1024) fun x y => CorG y.1
theorem cr_fn : hasFn Try.prog 53 := ⟨_, Try.func53, by rfl, by rfl⟩
theorem cr_sp {E : Env} (hE : E.ok) : SpecOk Try.prog E 53 crSp := by
  refine spec_of_vc (C := crC) cr_fn Try.func53 (by kernel_rfl) crC_cx (fun x hl hx => ?_) hE
  obtain ⟨l, m, ⟨⟩⟩ := x
  obtain ⟨g1, g2⟩ := hx
  have g1 : RulO l := g1
  obtain rfl : m = 1024 := g2
  have g3 := g1.len
  cbv
  (repeat' (first | ((with_reducible refine And.intro (fun h => ?_) (fun h => ?_)) <;> (first | with_reducible exact (tf h (by assumption)).elim | with_reducible exact (tf (by assumption) h).elim | cbv)) | ((with_reducible show JoinT (fun s K => vc _ (Code.region _ _ true) s K) _ _ _ _ _); (with_reducible apply JoinT.mg2); (focus (cbv; (repeat' (first | ((with_reducible refine And.intro (fun h => ?_) (fun h => ?_)) <;> (first | with_reducible exact (tf h (by assumption)).elim | with_reducible exact (tf (by assumption) h).elim | cbv)) | ((with_reducible first | refine Cb.mk ?_ | refine Lz.mk ?_ | refine JoinT.left ?_ | refine AllT.mk (fun x hx => ?_)); cbv) | ((with_reducible refine Ob.mk (fun _ => ?_) ?_); rotate_left 1) | (with_reducible first | refine Mg.mk (Exists.intro ?_ (And.intro ?_ ?_)) | rfl | refine Fin.mk ?_ | exact True.intro | refine And.intro ?_ ?_))); (all_goals (try (have du : Unit := (); have dv : Unit := (); first | exact Goes.self (Ex2.mk ⟨dv, du, trivial, trivial, rfl⟩) | exact Goes.self (Ex2.mk ⟨x, du, hx, trivial, rfl⟩) | (rename_i xa hxa; exact Goes.self (Ex2.mk ⟨xa, x, hxa, hx, rfl⟩))))); (all_goals (fail_if_success (with_reducible first | show Goes _ _ _ _ | show (∃ _, unr _ _ _ _ _ _))))))) | ((with_reducible first | refine Cb.mk ?_ | refine Lz.mk ?_ | refine JoinT.left ?_ | refine AllT.mk (fun x hx => ?_)); cbv) | ((with_reducible refine Ob.mk (fun _ => ?_) ?_); rotate_left 1) | (with_reducible first | refine Mg.mk (Exists.intro ?_ (And.intro ?_ ?_)) | rfl | refine Fin.mk ?_ | exact True.intro | refine And.intro ?_ ?_)))
  all_goals first | (with_reducible show (∃ _, unr _ _ _ _ _ _); skip) | (with_reducible show Goes _ _ _ _; skip) | (with_reducible show JoinT _ _ _ _ _ _; skip) | (first | ((try dsimp only [Shp.D, Shp.Ds, Shp.dflt] at *); simp only [vem, veq, ne_eq, cmpI, arI, dvI, shI, SV.den, obLt, elemAt, obApp, partL, obPart, lowD, highD, mxOk, convL_self, zerosB, List.length_replicate, vln] at *; (try dsimp only [Shp.D, Shp.Ds, Shp.dflt, Shp.dflts] at *); done) | ((try dsimp only [Shp.D, Shp.Ds, Shp.dflt] at *); simp only [vem, veq, ne_eq, cmpI, arI, dvI, shI, SV.den, obLt, elemAt, obApp, partL, obPart, lowD, highD, mxOk, convL_self, zerosB, List.length_replicate, vln] at *; (try dsimp only [Shp.D, Shp.Ds, Shp.dflt, Shp.dflts] at *); omega))
  with_reducible refine loop_hv [(5, 900000, 39, pktE)] (rangeN 7 12 ++ rangeN 19 122) [] [900000] (fun z b t y => 0 ≤ z 6 ∧ z 6 ≤ (l.length : Int) ∧ CorG (y 900000 pktE)) (fun z b t y => ((l.length : Int) - z 6).toNat) (by cbv) (by cbv) ?_ ?_ (fun z1 b1 t1 u1 y1 R1 hP1 hR1 => ?_)
  · refine EndOk.mk (by cbv) (by cbv) (by cbv; repeat' (first | exact True.intro | exact rfl | with_reducible refine And.intro ?_ ?_)) (by cbv; repeat' (first | exact True.intro | exact rfl | with_reducible refine And.intro ?_ ?_)) (by cbv; repeat' (first | exact True.intro | exact rfl | with_reducible refine And.intro ?_ ?_))
  · intro zq bq tq yq hUq
    have q6 := hUq.z 6
    cbv at q6
    replace q6 := q6.eq
    simp only [atI, vem, veq, ne_eq, cmpI, arI, dvI, shI, SV.den] at q6
    have qy900000 := hUq.y 900000 (pktE)
    cbv at qy900000
    replace qy900000 := qy900000.eq
    simp only [atY, convL_self, vem, veq, ne_eq, cmpI, arI, dvI, shI, SV.den] at qy900000
    clear hUq
    try dsimp only [Shp.D, Shp.Ds, Shp.dflt] at *
    try simp only [vem, veq, ne_eq, cmpI, arI, dvI, shI, SV.den, convL_self] at *
    rw [← q6, ← qy900000]
    exact ⟨by omega, by omega, ⟨by simp, fun r hr => by cases hr⟩⟩
  obtain ⟨p1, p2, p3⟩ := hP1
  cbv
  (repeat' (first | ((with_reducible refine And.intro (fun h => ?_) (fun h => ?_)) <;> (first | with_reducible exact (tf h (by assumption)).elim | with_reducible exact (tf (by assumption) h).elim | cbv)) | ((with_reducible show JoinT (fun s K => vc _ (Code.region _ _ true) s K) _ _ _ _ _); (with_reducible apply JoinT.mg2); (focus (cbv; (repeat' (first | ((with_reducible refine And.intro (fun h => ?_) (fun h => ?_)) <;> (first | with_reducible exact (tf h (by assumption)).elim | with_reducible exact (tf (by assumption) h).elim | cbv)) | ((with_reducible first | refine Cb.mk ?_ | refine Lz.mk ?_ | refine JoinT.left ?_ | refine AllT.mk (fun x hx => ?_)); cbv) | ((with_reducible refine Ob.mk (fun _ => ?_) ?_); rotate_left 1) | (with_reducible first | refine Mg.mk (Exists.intro ?_ (And.intro ?_ ?_)) | rfl | refine Fin.mk ?_ | exact True.intro | refine And.intro ?_ ?_))); (all_goals (try (have du : Unit := (); have dv : Unit := (); first | exact Goes.self (Ex2.mk ⟨dv, du, trivial, trivial, rfl⟩) | exact Goes.self (Ex2.mk ⟨x, du, hx, trivial, rfl⟩) | (rename_i xa hxa; exact Goes.self (Ex2.mk ⟨xa, x, hxa, hx, rfl⟩))))); (all_goals (fail_if_success (with_reducible first | show Goes _ _ _ _ | show (∃ _, unr _ _ _ _ _ _))))))) | ((with_reducible first | refine Cb.mk ?_ | refine Lz.mk ?_ | refine JoinT.left ?_ | refine AllT.mk (fun x hx => ?_)); cbv) | ((with_reducible refine Ob.mk (fun _ => ?_) ?_); rotate_left 1) | (with_reducible first | refine Mg.mk (Exists.intro ?_ (And.intro ?_ ?_)) | rfl | refine Fin.mk ?_ | exact True.intro | refine And.intro ?_ ?_)))
  all_goals first | (with_reducible show (∃ _, unr _ _ _ _ _ _); skip) | (with_reducible show Goes _ _ _ _; skip) | (with_reducible show JoinT _ _ _ _ _ _; skip) | (first | ((try dsimp only [Shp.D, Shp.Ds, Shp.dflt] at *); simp only [vem, veq, ne_eq, cmpI, arI, dvI, shI, SV.den, obLt, elemAt, obApp, partL, obPart, lowD, highD, mxOk, convL_self, zerosB, List.length_replicate, vln] at *; (try dsimp only [Shp.D, Shp.Ds, Shp.dflt, Shp.dflts] at *); done) | ((try dsimp only [Shp.D, Shp.Ds, Shp.dflt] at *); simp only [vem, veq, ne_eq, cmpI, arI, dvI, shI, SV.den, obLt, elemAt, obApp, partL, obPart, lowD, highD, mxOk, convL_self, zerosB, List.length_replicate, vln] at *; (try dsimp only [Shp.D, Shp.Ds, Shp.dflt, Shp.dflts] at *); omega) | ((try dsimp only [Shp.D, Shp.Ds, Shp.dflt] at *); simp only [vem, veq, ne_eq, cmpI, arI, dvI, shI, SV.den, obLt, elemAt, obApp, partL, obPart, lowD, highD, mxOk, convL_self, zerosB, List.length_replicate, vln] at *; (try dsimp only [Shp.D, Shp.Ds, Shp.dflt, Shp.dflts] at *); assumption) | (try ((try dsimp only [Shp.D, Shp.Ds, Shp.dflt] at *); simp only [vem, veq, ne_eq, cmpI, arI, dvI, shI, SV.den, obLt, elemAt, obApp, partL, obPart, lowD, highD, mxOk, convL_self, zerosB, List.length_replicate, vln] at *; (try dsimp only [Shp.D, Shp.Ds, Shp.dflt, Shp.dflts] at *))))
  with_reducible refine loop_hv [] (rangeN 8 11 ++ rangeN 25 116) [] [900000] (fun z b t y => 0 ≤ z 7 ∧ z 7 ≤ ((l.getD (z1 6).toNat ruleD).2.2.1.length : Int) ∧ CorG (y 900000 pktE)) (fun z b t y => (((l.getD (z1 6).toNat ruleD).2.2.1.length : Int) - z 7).toNat) (by cbv) (by cbv) ?_ ?_ (fun z2 b2 t2 u2 y2 R2 hP2 hR2 => ?_)
  · refine EndOk.mk (by cbv) (by cbv) (by cbv; repeat' (first | exact True.intro | exact rfl | with_reducible refine And.intro ?_ ?_)) (by cbv; repeat' (first | exact True.intro | exact rfl | with_reducible refine And.intro ?_ ?_)) (by cbv; repeat' (first | exact True.intro | exact rfl | with_reducible refine And.intro ?_ ?_))
  · intro zq bq tq yq hUq
    have q7 := hUq.z 7
    cbv at q7
    replace q7 := q7.eq
    simp only [atI, vem, veq, ne_eq, cmpI, arI, dvI, shI, SV.den] at q7
    have qy900000 := hUq.y 900000 (pktE)
    cbv at qy900000
    replace qy900000 := qy900000.eq
    simp only [atY, convL_self, vem, veq, ne_eq, cmpI, arI, dvI, shI, SV.den] at qy900000
    clear hUq
    try dsimp only [Shp.D, Shp.Ds, Shp.dflt] at *
    try simp only [vem, veq, ne_eq, cmpI, arI, dvI, shI, SV.den, convL_self] at *
    rw [← q7, ← qy900000]
    exact ⟨by omega, by omega, p3⟩
  obtain ⟨r1, r2, r3⟩ := hP2
  cbv
  (repeat' (first | ((with_reducible refine And.intro (fun h => ?_) (fun h => ?_)) <;> (first | with_reducible exact (tf h (by assumption)).elim | with_reducible exact (tf (by assumption) h).elim | cbv)) | ((with_reducible show JoinT (fun s K => vc _ (Code.region _ _ true) s K) _ _ _ _ _); (with_reducible apply JoinT.mg2); (focus (cbv; (repeat' (first | ((with_reducible refine And.intro (fun h => ?_) (fun h => ?_)) <;> (first | with_reducible exact (tf h (by assumption)).elim | with_reducible exact (tf (by assumption) h).elim | cbv)) | ((with_reducible first | refine Cb.mk ?_ | refine Lz.mk ?_ | refine JoinT.left ?_ | refine AllT.mk (fun x hx => ?_)); cbv) | ((with_reducible refine Ob.mk (fun _ => ?_) ?_); rotate_left 1) | (with_reducible first | refine Mg.mk (Exists.intro ?_ (And.intro ?_ ?_)) | rfl | refine Fin.mk ?_ | exact True.intro | refine And.intro ?_ ?_))); (all_goals (try (have du : Unit := (); have dv : Unit := (); first | exact Goes.self (Ex2.mk ⟨dv, du, trivial, trivial, rfl⟩) | exact Goes.self (Ex2.mk ⟨x, du, hx, trivial, rfl⟩) | (rename_i xa hxa; exact Goes.self (Ex2.mk ⟨xa, x, hxa, hx, rfl⟩))))); (all_goals (fail_if_success (with_reducible first | show Goes _ _ _ _ | show (∃ _, unr _ _ _ _ _ _))))))) | ((with_reducible first | refine Cb.mk ?_ | refine Lz.mk ?_ | refine JoinT.left ?_ | refine AllT.mk (fun x hx => ?_)); cbv) | ((with_reducible refine Ob.mk (fun _ => ?_) ?_); rotate_left 1) | (with_reducible first | refine Mg.mk (Exists.intro ?_ (And.intro ?_ ?_)) | rfl | refine Fin.mk ?_ | exact True.intro | refine And.intro ?_ ?_)))
  all_goals first | (with_reducible show (∃ _, unr _ _ _ _ _ _); skip) | (with_reducible show Goes _ _ _ _; skip) | (with_reducible show JoinT _ _ _ _ _ _; skip) | (first | ((try dsimp only [Shp.D, Shp.Ds, Shp.dflt] at *); simp only [vem, veq, ne_eq, cmpI, arI, dvI, shI, SV.den, obLt, elemAt, obApp, partL, obPart, lowD, highD, mxOk, convL_self, zerosB, List.length_replicate, vln] at *; (try dsimp only [Shp.D, Shp.Ds, Shp.dflt, Shp.dflts] at *); done) | ((try dsimp only [Shp.D, Shp.Ds, Shp.dflt] at *); simp only [vem, veq, ne_eq, cmpI, arI, dvI, shI, SV.den, obLt, elemAt, obApp, partL, obPart, lowD, highD, mxOk, convL_self, zerosB, List.length_replicate, vln] at *; (try dsimp only [Shp.D, Shp.Ds, Shp.dflt, Shp.dflts] at *); omega) | ((try dsimp only [Shp.D, Shp.Ds, Shp.dflt] at *); simp only [vem, veq, ne_eq, cmpI, arI, dvI, shI, SV.den, obLt, elemAt, obApp, partL, obPart, lowD, highD, mxOk, convL_self, zerosB, List.length_replicate, vln] at *; (try dsimp only [Shp.D, Shp.Ds, Shp.dflt, Shp.dflts] at *); exact g1.get (by omega) (by omega) (by omega) (by omega)) | (try ((try dsimp only [Shp.D, Shp.Ds, Shp.dflt] at *); simp only [vem, veq, ne_eq, cmpI, arI, dvI, shI, SV.den, obLt, elemAt, obApp, partL, obPart, lowD, highD, mxOk, convL_self, zerosB, List.length_replicate, vln] at *; (try dsimp only [Shp.D, Shp.Ds, Shp.dflt, Shp.dflts] at *))))
  · rename_i e0 he0 e1 he1 e2 he2 e3 he3
    have c0 : EndG 0 e0.1 := by ((try dsimp only [Shp.D, Shp.Ds, Shp.dflt] at *); simp only [vem, veq, ne_eq, cmpI, arI, dvI, shI, SV.den, obLt, elemAt, obApp, partL, obPart, lowD, highD, mxOk, convL_self, zerosB, List.length_replicate, vln] at *; (try dsimp only [Shp.D, Shp.Ds, Shp.dflt, Shp.dflts] at *); exact he0.1)
    have c1 : EndG 1 e1.1 := by ((try dsimp only [Shp.D, Shp.Ds, Shp.dflt] at *); simp only [vem, veq, ne_eq, cmpI, arI, dvI, shI, SV.den, obLt, elemAt, obApp, partL, obPart, lowD, highD, mxOk, convL_self, zerosB, List.length_replicate, vln] at *; (try dsimp only [Shp.D, Shp.Ds, Shp.dflt, Shp.dflts] at *); exact he1.1)
    have c2 : EndG 2 e2.1 := by ((try dsimp only [Shp.D, Shp.Ds, Shp.dflt] at *); simp only [vem, veq, ne_eq, cmpI, arI, dvI, shI, SV.den, obLt, elemAt, obApp, partL, obPart, lowD, highD, mxOk, convL_self, zerosB, List.length_replicate, vln] at *; (try dsimp only [Shp.D, Shp.Ds, Shp.dflt, Shp.dflts] at *); exact he2.1)
    have c3 : EndG 3 e3.1 := by ((try dsimp only [Shp.D, Shp.Ds, Shp.dflt] at *); simp only [vem, veq, ne_eq, cmpI, arI, dvI, shI, SV.den, obLt, elemAt, obApp, partL, obPart, lowD, highD, mxOk, convL_self, zerosB, List.length_replicate, vln] at *; (try dsimp only [Shp.D, Shp.Ds, Shp.dflt, Shp.dflts] at *); exact he3.1)
    have c4 : EndG 4 x.1 := by ((try dsimp only [Shp.D, Shp.Ds, Shp.dflt] at *); simp only [vem, veq, ne_eq, cmpI, arI, dvI, shI, SV.den, obLt, elemAt, obApp, partL, obPart, lowD, highD, mxOk, convL_self, zerosB, List.length_replicate, vln] at *; (try dsimp only [Shp.D, Shp.Ds, Shp.dflt, Shp.dflts] at *); exact hx.1)
    clear he0 he1 he2 he3 hx
    have b0 := c0.l2
    have b1 := c1.l2
    have b2 := c2.l2
    have b3 := c3.l2
    have b4 := c4.l2
    with_reducible refine loop_hv [] (rangeN 15 4 ++ rangeN 53 88) [] [900000] (fun z b t y => 0 ≤ z 14 ∧ z 14 ≤ 1024 ∧ CorG (y 900000 pktE)) (fun z b t y => (1024 - z 14).toNat) (by cbv) (by cbv) ?_ ?_ (fun z3 b3 t3 u3 y3 R3 hP3 hR3 => ?_)
    · refine EndOk.mk (by cbv) (by cbv) (by cbv; repeat' (first | exact True.intro | exact rfl | with_reducible refine And.intro ?_ ?_)) (by cbv; repeat' (first | exact True.intro | exact rfl | with_reducible refine And.intro ?_ ?_)) (by cbv; repeat' (first | exact True.intro | exact rfl | with_reducible refine And.intro ?_ ?_))
    · intro zq bq tq yq hUq
      have q14 := hUq.z 14
      cbv at q14
      replace q14 := q14.eq
      simp only [atI, vem, veq, ne_eq, cmpI, arI, dvI, shI, SV.den] at q14
      have qy900000 := hUq.y 900000 (pktE)
      cbv at qy900000
      replace qy900000 := qy900000.eq
      simp only [atY, convL_self, vem, veq, ne_eq, cmpI, arI, dvI, shI, SV.den] at qy900000
      clear hUq
      try dsimp only [Shp.D, Shp.Ds, Shp.dflt] at *
      try simp only [vem, veq, ne_eq, cmpI, arI, dvI, shI, SV.den, convL_self] at *
      rw [← q14, ← qy900000]
      exact ⟨by omega, by omega, r3⟩
    obtain ⟨s1, s2, s3⟩ := hP3
    cbv
    (repeat' (first | ((with_reducible refine And.intro (fun h => ?_) (fun h => ?_)) <;> (first | with_reducible exact (tf h (by assumption)).elim | with_reducible exact (tf (by assumption) h).elim | cbv)) | ((with_reducible show JoinT (fun s K => vc _ (Code.region _ _ true) s K) _ _ _ _ _); (with_reducible apply JoinT.mg2); (focus (cbv; (repeat' (first | ((with_reducible refine And.intro (fun h => ?_) (fun h => ?_)) <;> (first | with_reducible exact (tf h (by assumption)).elim | with_reducible exact (tf (by assumption) h).elim | cbv)) | ((with_reducible first | refine Cb.mk ?_ | refine Lz.mk ?_ | refine JoinT.left ?_ | refine AllT.mk (fun x hx => ?_)); cbv) | ((with_reducible refine Ob.mk (fun _ => ?_) ?_); rotate_left 1) | (with_reducible first | refine Mg.mk (Exists.intro ?_ (And.intro ?_ ?_)) | rfl | refine Fin.mk ?_ | exact True.intro | refine And.intro ?_ ?_))); (all_goals (try (have du : Unit := (); have dv : Unit := (); first | exact Goes.self (Ex2.mk ⟨dv, du, trivial, trivial, rfl⟩) | exact Goes.self (Ex2.mk ⟨x, du, hx, trivial, rfl⟩) | (rename_i xa hxa; exact Goes.self (Ex2.mk ⟨xa, x, hxa, hx, rfl⟩))))); (all_goals (fail_if_success (with_reducible first | show Goes _ _ _ _ | show (∃ _, unr _ _ _ _ _ _))))))) | ((with_reducible first | refine Cb.mk ?_ | refine Lz.mk ?_ | refine JoinT.left ?_ | refine AllT.mk (fun x hx => ?_)); cbv) | ((with_reducible refine Ob.mk (fun _ => ?_) ?_); rotate_left 1) | (with_reducible first | refine Mg.mk (Exists.intro ?_ (And.intro ?_ ?_)) | rfl | refine Fin.mk ?_ | exact True.intro | refine And.intro ?_ ?_)))
    all_goals first | (with_reducible show (∃ _, unr _ _ _ _ _ _); skip) | (with_reducible show Goes _ _ _ _; skip) | (with_reducible show JoinT _ _ _ _ _ _; skip) | (first | ((try dsimp only [Shp.D, Shp.Ds, Shp.dflt] at *); simp only [vem, veq, ne_eq, cmpI, arI, dvI, shI, SV.den, obLt, elemAt, obApp, partL, obPart, lowD, highD, mxOk, convL_self, zerosB, List.length_replicate, vln] at *; (try dsimp only [Shp.D, Shp.Ds, Shp.dflt, Shp.dflts] at *); done) | ((try dsimp only [Shp.D, Shp.Ds, Shp.dflt] at *); simp only [vem, veq, ne_eq, cmpI, arI, dvI, shI, SV.den, obLt, elemAt, obApp, partL, obPart, lowD, highD, mxOk, convL_self, zerosB, List.length_replicate, vln] at *; (try dsimp only [Shp.D, Shp.Ds, Shp.dflt, Shp.dflts] at *); omega) | ((try dsimp only [Shp.D, Shp.Ds, Shp.dflt] at *); simp only [vem, veq, ne_eq, cmpI, arI, dvI, shI, SV.den, obLt, elemAt, obApp, partL, obPart, lowD, highD, mxOk, convL_self, zerosB, List.length_replicate, vln] at *; (try dsimp only [Shp.D, Shp.Ds, Shp.dflt, Shp.dflts] at *); have c := cor_x c0.l c1.l c2.l c3.l c4.l s1 (by assumption); have d1 := c.a1; have d2 := c.a2; have d3 := c.a3; have d4 := c.a4; have d5 := c.a5; first | assumption | exact d1.1 | exact d1.2 | exact d2.1 | exact d2.2 | exact d3.1 | exact d3.2 | exact d4.1 | exact d4.2 | exact d5.1 | exact d5.2) | (try ((try dsimp only [Shp.D, Shp.Ds, Shp.dflt] at *); simp only [vem, veq, ne_eq, cmpI, arI, dvI, shI, SV.den, obLt, elemAt, obApp, partL, obPart, lowD, highD, mxOk, convL_self, zerosB, List.length_replicate, vln] at *; (try dsimp only [Shp.D, Shp.Ds, Shp.dflt, Shp.dflts] at *))))
    · with_reducible refine hR3 _ ?_ (fun zq bq tq yq hUq => ?_)
      · refine EndOk.mk (by cbv) (by cbv) (by cbv; repeat' (first | exact True.intro | exact rfl | with_reducible refine And.intro ?_ ?_)) (by cbv; repeat' (first | exact True.intro | exact rfl | with_reducible refine And.intro ?_ ?_)) (by cbv; repeat' (first | exact True.intro | exact rfl | with_reducible refine And.intro ?_ ?_))
      have q14 := hUq.z 14
      cbv at q14
      replace q14 := q14.eq
      simp only [atI, vem, veq, ne_eq, cmpI, arI, dvI, shI, SV.den] at q14
      have qy900000 := hUq.y 900000 (pktE)
      cbv at qy900000
      replace qy900000 := qy900000.eq
      simp only [atY, convL_self, vem, veq, ne_eq, cmpI, arI, dvI, shI, SV.den] at qy900000
      clear hUq hR3
      try dsimp only [Shp.D, Shp.Ds, Shp.dflt] at *
      try simp only [vem, veq, ne_eq, cmpI, arI, dvI, shI, SV.den, elemAt, convL_self] at *
      try dsimp only [Shp.D, Shp.Ds, Shp.dflt, Shp.dflts] at *
      have c := cor_x c0.l c1.l c2.l c3.l c4.l s1 (by assumption)
      have c5 := c.n1
      rw [← qy900000]
      exact ⟨⟨by omega, by omega, cor_add s3 (by assumption) (cor_pkt c0 c1 c2 c.a5 c.a4 c.a3)⟩, by omega⟩
    · with_reducible refine hR2 _ ?_ (fun zq bq tq yq hUq => ?_)
      · refine EndOk.mk (by cbv) (by cbv) (by cbv; repeat' (first | exact True.intro | exact rfl | with_reducible refine And.intro ?_ ?_)) (by cbv; repeat' (first | exact True.intro | exact rfl | with_reducible refine And.intro ?_ ?_)) (by cbv; repeat' (first | exact True.intro | exact rfl | with_reducible refine And.intro ?_ ?_))
      have q7 := hUq.z 7
      cbv at q7
      replace q7 := q7.eq
      simp only [atI, vem, veq, ne_eq, cmpI, arI, dvI, shI, SV.den] at q7
      have qy900000 := hUq.y 900000 (pktE)
      cbv at qy900000
      replace qy900000 := qy900000.eq
      simp only [atY, convL_self, vem, veq, ne_eq, cmpI, arI, dvI, shI, SV.den] at qy900000
      clear hUq hR2
      try dsimp only [Shp.D, Shp.Ds, Shp.dflt] at *
      try simp only [vem, veq, ne_eq, cmpI, arI, dvI, shI, SV.den, elemAt, convL_self] at *
      try dsimp only [Shp.D, Shp.Ds, Shp.dflt, Shp.dflts] at *
      have g4 := g1.nbk p1 (by assumption)
      rw [← qy900000]
      obtain ⟨d1, d2, d3⟩ := cor_j r1 ‹z2 7 < _› q7 g4
      exact ⟨⟨d1, d2, s3⟩, d3⟩
  · with_reducible refine hR1 _ ?_ (fun zq bq tq yq hUq => ?_)
    · refine EndOk.mk (by cbv) (by cbv) (by cbv; repeat' (first | exact True.intro | exact rfl | with_reducible refine And.intro ?_ ?_)) (by cbv; repeat' (first | exact True.intro | exact rfl | with_reducible refine And.intro ?_ ?_)) (by cbv; repeat' (first | exact True.intro | exact rfl | with_reducible refine And.intro ?_ ?_))
    have q6 := hUq.z 6
    cbv at q6
    replace q6 := q6.eq
    simp only [atI, vem, veq, ne_eq, cmpI, arI, dvI, shI, SV.den] at q6
    have qy900000 := hUq.y 900000 (pktE)
    cbv at qy900000
    replace qy900000 := qy900000.eq
    simp only [atY, convL_self, vem, veq, ne_eq, cmpI, arI, dvI, shI, SV.den] at qy900000
    clear hUq hR1
    try dsimp only [Shp.D, Shp.Ds, Shp.dflt] at *
    try simp only [vem, veq, ne_eq, cmpI, arI, dvI, shI, SV.den, elemAt, convL_self] at *
    try dsimp only [Shp.D, Shp.Ds, Shp.dflt, Shp.dflts] at *
    rw [← qy900000]
    exact ⟨⟨by omega, by omega, r3⟩, by omega⟩
end Go.Proofs.Ytiinlanpinanhaa.V
