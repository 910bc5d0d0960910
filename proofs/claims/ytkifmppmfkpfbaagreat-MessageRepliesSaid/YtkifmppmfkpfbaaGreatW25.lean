import Derived.Test.YtkifmppmfkpfbaaGreatW20
set_option linter.unusedVariables false
set_option linter.unusedSimpArgs false
namespace Go.Proofs.YtkifmppmfkpfbaaGreat.V
open Go.RowKit
section
set_option maxHeartbeats 8000000
set_option maxRecDepth 100000
abbrev trD0' : TrT := (0, 0, 0, ())
abbrev prD0 : PrT := (0, 0, [], [], ())
def badT (t : TrT) : Prop := t.1 < 1 ∨ t.1 > 5 ∨ ¬ (0 ≤ t.2.1 ∧ t.2.1 ≤ 65535) ∨ ¬ (0 ≤ t.2.2.1 ∧ t.2.2.1 ≤ 65535)
instance (t : TrT) : Decidable (badT t) := by unfold badT; exact inferInstance
def trsE : List TrT → List TrT → Int
 | _, [] => 0
 | pre, t :: ts => if badT t then 5 else if hasT pre t = true then 9 else trsE (pre ++ [t]) ts
def spiBad (p n : Int) : Prop := (p = 1 ∧ ¬ n = 0 ∧ ¬ n = 8) ∨ (¬ p = 1 ∧ ¬ n = 4)
instance (p n : Int) : Decidable (spiBad p n) := by unfold spiBad; exact inferInstance
def oneF (p : PrT) (n : Int) : Int :=
 if ¬ p.1 = n then 7
 else if p.2.1 < 1 ∨ p.2.1 > 3 then 5
 else if spiBad p.2.1 p.2.2.1.length then 20
 else if p.2.2.2.1.length = 0 then 8
 else if 24 < p.2.2.2.1.length then 10
 else trsE [] p.2.2.2.1
def chkGo : List PrT → Int → Int
 | [], _ => 0
 | p :: ps, n => if oneF p n = 0 then chkGo ps (n + 1) else oneF p n
def chkF (l : List PrT) : Int := if l.length = 0 then 8 else if 8 < l.length then 10 else chkGo l 1
theorem chkGo_drop (l : List PrT) (k : Nat) (n : Int) (h : k < l.length) : chkGo (l.drop k) n = if oneF (l.getD k prD0) n = 0 then chkGo (l.drop (k + 1)) (n + 1) else oneF (l.getD k prD0) n := by
 rw [List.drop_eq_getElem_cons h, chkGo, List.getD_eq_getElem?_getD, List.getElem?_eq_getElem h]
 rfl
theorem trsE_drop (l : List TrT) (k : Nat) (h : k < l.length) : trsE (l.take k) (l.drop k) = if badT (l.getD k trD0') then 5 else if hasT (l.take k) (l.getD k trD0') = true then 9 else trsE (l.take (k + 1)) (l.drop (k + 1)) := by
 rw [List.drop_eq_getElem_cons h, trsE, List.getD_eq_getElem?_getD, List.getElem?_eq_getElem h]
 simp only [Option.getD_some]
 rw [List.take_succ_eq_append_getElem h]
abbrev chkS : Spec := fnFn [.sl prE] [.int .i64] (fun _ => True) fun x => (chkF x.1, ())
abbrev spiFn : Spec := fnFn [.int .i64, .int .i64] [.bool] (fun _ => True) fun x => (decide (¬ spiBad x.1 x.2.1), ())
def pkkC_t : SpecT := fun _ => none
def pkkC : Cx := ⟨tt, qt, bt, st, pkkC_t, 0, 1000000000000000, fun _ => none, false, CxE.no, []⟩
theorem pkkC_si {E : Env} (h : E.ok) : SpecsOk Tryz.prog E (CxE.no) pkkC_t (fun _ => none) := ⟨(fun t f h => by cases h), noI_ok _ _ _⟩
theorem pkkC_x {E : Env} (h : E.ok) : CxEOk Tryz.prog E (CxE.no) := CxE.no_ok _ _
theorem pkkC_cx (E : Env) (h : E.ok) (h1 : E.lo = 0) (h2 : E.hi = 1000000000000000) : Cx.ok pkkC Tryz.prog E := ⟨tt_ok, qt_ok, bt_ok, pkkC_si h, h, h1, h2, mixed_ok, pkkC_x h⟩
theorem spi_fn : hasFn Tryz.prog 137 := ⟨_, Tryz.func137, by rfl, by rfl⟩
theorem spi_sp {E : Env} (hE : E.ok) : SpecOk Tryz.prog E 137 spiFn := by
 refine fnFn_of (pre := fun _ => True) (post := fun (x : Shp.Ds [.int .i64, .int .i64]) (y : Shp.Ds [.bool]) => y.1 = decide (¬ spiBad x.1 x.2.1)) ?_ fun x y h => by rw [← h]
 refine spec_of_vc (C := pkkC) spi_fn Tryz.func137 (by kernel_rfl) pkkC_cx (fun x hl hx => ?_) hE
 obtain ⟨p, n, _⟩ := x
 cbv
 (repeat' (first|((with_reducible apply And.intro <;> intro h) <;> (first|(with_reducible first|exact (tf h ‹_›).elim|exact (tf ‹_› h).elim)|cbv))|((with_reducible first|apply Cb.mk|apply Lz.mk|apply JoinT.left|(apply AllT.mk;intro x hx));cbv)|((with_reducible refine Ob.mk (fun _ => ?_) ?_);rotate_left 1)|(with_reducible first|refine Mg.mk (Exists.intro ?_ (And.intro ?_ ?_))|rfl|apply Fin.mk|exact True.intro|apply And.intro)))
 all_goals first|(with_reducible first|show (∃ _, unr _ _ _ _ _ _)|show UnrI _ _ _ _ _|show Goes _ _ _ _|show JoinT _ _ _ _ _ _ _)|(((try dsimp only [Shp.D, Shp.Ds, Shp.dflt] at *); simp only [vla, vem, veq, vln] at *; (try dsimp only [Shp.D, Shp.Ds, Shp.dflt, Shp.dflts] at *); first | done | (unfold spiBad; simp_all; done) | (unfold spiBad; simp_all; omega) | (unfold spiBad; rw [Bool.eq_iff_iff]; simp only [beq_iff_eq, decide_eq_true_eq]; omega)))
abbrev n16Fn : Spec := fnFn [.int .i64] [.bool] (fun _ => True) fun x => (decide (0 ≤ x.1 ∧ x.1 ≤ 65535), ())
theorem n16_fn : hasFn Tryz.prog 138 := ⟨_, Tryz.func138, by rfl, by rfl⟩
theorem n16_sp {E : Env} (hE : E.ok) : SpecOk Tryz.prog E 138 n16Fn := by
 refine fnFn_of (pre := fun _ => True) (post := fun (x : Shp.Ds [.int .i64]) (y : Shp.Ds [.bool]) => y.1 = decide (0 ≤ x.1 ∧ x.1 ≤ 65535)) ?_ fun x y h => by rw [← h]
 refine spec_of_vc (C := pkkC) n16_fn Tryz.func138 (by kernel_rfl) pkkC_cx (fun x hl hx => ?_) hE
 obtain ⟨p, _⟩ := x
 cbv
 (repeat' (first|((with_reducible apply And.intro <;> intro h) <;> (first|(with_reducible first|exact (tf h ‹_›).elim|exact (tf ‹_› h).elim)|cbv))|((with_reducible first|apply Cb.mk|apply Lz.mk|apply JoinT.left|(apply AllT.mk;intro x hx));cbv)|((with_reducible refine Ob.mk (fun _ => ?_) ?_);rotate_left 1)|(with_reducible first|refine Mg.mk (Exists.intro ?_ (And.intro ?_ ?_))|rfl|apply Fin.mk|exact True.intro|apply And.intro)))
 all_goals first|(with_reducible first|show (∃ _, unr _ _ _ _ _ _)|show UnrI _ _ _ _ _|show Goes _ _ _ _|show JoinT _ _ _ _ _ _ _)|((try ((try dsimp only [Shp.D, Shp.Ds, Shp.dflt] at *); simp only [vla, vem, veq, vln] at *; (try dsimp only [Shp.D, Shp.Ds, Shp.dflt, Shp.dflts] at *); first | done | (simp_all; done) | (simp_all; omega) | skip)))
theorem ck_e {l : List PrT} {z v : Int} (p1 : 0 ≤ z) (h : z < (l.length : Int)) (p3 : chkGo (l.drop z.toNat) (z + 1) = chkF l) (hv : oneF (l.getD z.toNat (0, 0, [], [], ())) (z + 1) = v) (hn : ¬ v = 0) : v = chkF l := by
 rw [← p3, chkGo_drop l z.toNat _ (by omega)]
 rw [show l.getD z.toNat prD0 = l.getD z.toNat (0, 0, [], [], ()) from rfl, hv, if_neg hn]
theorem ck_n {l : List PrT} {z zq : Int} (p1 : 0 ≤ z) (h : z < (l.length : Int)) (p3 : chkGo (l.drop z.toNat) (z + 1) = chkF l) (hv : oneF (l.getD z.toNat (0, 0, [], [], ())) (z + 1) = 0) (h8 : l.length ≤ 8) (q : (z + 1 + 9223372036854775808) % 18446744073709551616 - 9223372036854775808 = zq) :
    (0 ≤ zq ∧ zq ≤ (l.length : Int) ∧ chkGo (l.drop zq.toNat) (zq + 1) = chkF l) ∧ ((l.length : Int) - zq).toNat < ((l.length : Int) - z).toNat := by
 have e : zq = z + 1 := by omega
 refine ⟨⟨by omega, by omega, ?_⟩, by omega⟩
 rw [← p3, chkGo_drop l z.toNat _ (by omega), show l.getD z.toNat prD0 = l.getD z.toNat (0, 0, [], [], ()) from rfl, if_pos hv, e, show (z + 1).toNat = z.toNat + 1 by omega]
theorem one_7 {p : PrT} {n : Int} (h : ¬ p.1 = n) : oneF p n = 7 := by unfold oneF; rw [if_pos h]
theorem one_5 {p : PrT} {n : Int} (h : p.1 = n) (h2 : p.2.1 < 1 ∨ p.2.1 > 3) : oneF p n = 5 := by unfold oneF; rw [if_neg (by omega), if_pos h2]
theorem one_20 {p : PrT} {n : Int} (h : p.1 = n) (h2 : ¬ (p.2.1 < 1 ∨ p.2.1 > 3)) (h3 : spiBad p.2.1 p.2.2.1.length) : oneF p n = 20 := by unfold oneF; rw [if_neg (by omega), if_neg h2, if_pos h3]
theorem one_8 {p : PrT} {n : Int} (h : p.1 = n) (h2 : ¬ (p.2.1 < 1 ∨ p.2.1 > 3)) (h3 : ¬ spiBad p.2.1 p.2.2.1.length) (h4 : p.2.2.2.1.length = 0) : oneF p n = 8 := by unfold oneF; rw [if_neg (by omega), if_neg h2, if_neg h3, if_pos h4]
theorem one_10 {p : PrT} {n : Int} (h : p.1 = n) (h2 : ¬ (p.2.1 < 1 ∨ p.2.1 > 3)) (h3 : ¬ spiBad p.2.1 p.2.2.1.length) (h4 : 24 < p.2.2.2.1.length) : oneF p n = 10 := by unfold oneF; rw [if_neg (by omega), if_neg h2, if_neg h3, if_neg (by omega), if_pos h4]
theorem one_t {p : PrT} {n : Int} (h : p.1 = n) (h2 : ¬ (p.2.1 < 1 ∨ p.2.1 > 3)) (h3 : ¬ spiBad p.2.1 p.2.2.1.length) (h4 : ¬ p.2.2.2.1.length = 0) (h5 : ¬ 24 < p.2.2.2.1.length) : oneF p n = trsE [] p.2.2.2.1 := by unfold oneF; rw [if_neg (by omega), if_neg h2, if_neg h3, if_neg h4, if_neg h5]
theorem chk_end {l : List PrT} {z : Int} (p2 : z ≤ (l.length : Int)) (h : ¬ z < (l.length : Int)) (p3 : chkGo (l.drop z.toNat) (z + 1) = chkF l) : 0 = chkF l := by
 rw [← p3, List.drop_eq_nil_of_le (by omega)]
 rfl
theorem nb16 {x : Int} (h : (!decide (0 ≤ x ∧ x ≤ 65535)) = true) : ¬ (0 ≤ x ∧ x ≤ 65535) := by
 intro hc
 rw [decide_eq_true hc] at h
 cases h
theorem nbad {t : TrT} (h1 : ¬ t.1 < 1) (h2 : ¬ t.1 > 5) (h3 : (!decide (0 ≤ t.2.1 ∧ t.2.1 ≤ 65535)) = false) (h4 : (!decide (0 ≤ t.2.2.1 ∧ t.2.2.1 ≤ 65535)) = false) : ¬ badT t := by
 have h3 : 0 ≤ t.2.1 ∧ t.2.1 ≤ 65535 := by simpa using h3
 have h4 : 0 ≤ t.2.2.1 ∧ t.2.2.1 ≤ 65535 := by simpa using h4
 unfold badT
 omega
theorem ts_5 {l : List TrT} {z : Int} (h0 : 0 ≤ z) (h1 : z < (l.length : Int)) (r : trsE (l.take z.toNat) (l.drop z.toNat) = trsE [] l) (h : badT (l.getD z.toNat (0, 0, 0, ()))) : trsE [] l = 5 := by
 rw [← r, trsE_drop l z.toNat (by omega), if_pos h]
theorem ts_9 {l : List TrT} {z : Int} (h0 : 0 ≤ z) (h1 : z < (l.length : Int)) (r : trsE (l.take z.toNat) (l.drop z.toNat) = trsE [] l) (h : ¬ badT (l.getD z.toNat (0, 0, 0, ()))) (h2 : hasT (l.take z.toNat) (l.getD z.toNat (0, 0, 0, ())) = true) : trsE [] l = 9 := by
 rw [← r, trsE_drop l z.toNat (by omega), if_neg h, if_pos h2]
theorem ts_n {l : List TrT} {z zq : Int} (h0 : 0 ≤ z) (h1 : z < (l.length : Int)) (r : trsE (l.take z.toNat) (l.drop z.toNat) = trsE [] l) (h : ¬ badT (l.getD z.toNat (0, 0, 0, ()))) (h2 : hasT (l.take z.toNat) (l.getD z.toNat (0, 0, 0, ())) = false) (h24 : l.length ≤ 24)
    (q : (z + 1 + 9223372036854775808) % 18446744073709551616 - 9223372036854775808 = zq) : (0 ≤ zq ∧ zq ≤ (l.length : Int) ∧ trsE (l.take zq.toNat) (l.drop zq.toNat) = trsE [] l) ∧ ((l.length : Int) - zq).toNat < ((l.length : Int) - z).toNat := by
 have e : zq = z + 1 := by omega
 refine ⟨⟨by omega, by omega, ?_⟩, by omega⟩
 rw [← r, trsE_drop l z.toNat (by omega), if_neg h, if_neg (by rw [h2]; exact Bool.false_ne_true), e, show (z + 1).toNat = z.toNat + 1 by omega]
theorem ts_e {l : List TrT} {z : Int} (h1 : ¬ z < (l.length : Int)) (r : trsE (l.take z.toNat) (l.drop z.toNat) = trsE [] l) : trsE [] l = 0 := by
 rw [← r, List.drop_eq_nil_of_le (by omega)]
 rfl
def pkcC_t : SpecT := nd0 138 (lf0 137 (spiFn)) (nd0 139 (lf0 138 (n16Fn)) (lf0 139 (hasTFn)))
def pkcC : Cx := ⟨tt, qt, bt, st, pkcC_t, 0, 1000000000000000, fun _ => none, false, CxE.no, []⟩
theorem pkcC_si {E : Env} (h : E.ok) : SpecsOk Tryz.prog E (CxE.no) pkcC_t (fun _ => none) := ⟨(nd0_ok (lf0_ok (.inl (spi_sp h))) (nd0_ok (lf0_ok (.inl (n16_sp h))) (lf0_ok (.inl (con_sp h))))), noI_ok _ _ _⟩
theorem pkcC_x {E : Env} (h : E.ok) : CxEOk Tryz.prog E (CxE.no) := CxE.no_ok _ _
theorem pkcC_cx (E : Env) (h : E.ok) (h1 : E.lo = 0) (h2 : E.hi = 1000000000000000) : Cx.ok pkcC Tryz.prog E := ⟨tt_ok, qt_ok, bt_ok, pkcC_si h, h, h1, h2, mixed_ok, pkcC_x h⟩
theorem pck_fn : hasFn Tryz.prog 124 := ⟨_, Tryz.func124, by rfl, by rfl⟩
theorem pck_sp0 {E : Env} (hE : E.ok) : SpecOk Tryz.prog E 124 (fnSpec [.sl prE] [.int .i64] [] (fun _ => True) fun x y => y.1 = chkF x.1) := by
 refine spec_of_vc (C := pkcC) pck_fn Tryz.func124 (by kernel_rfl) pkcC_cx (fun x hl hx => ?_) hE
 obtain ⟨l, _⟩ := x
 have hlen : l.length ≤ 140737488355328 := by simp only [Shp.lims, Shp.lim] at hl; exact hl.1.1
 cbv
 (repeat' (first|((with_reducible apply And.intro <;> intro h) <;> (first|(with_reducible first|exact (tf h ‹_›).elim|exact (tf ‹_› h).elim)|cbv)) | ((with_reducible show JoinT (fun s K => vc _ (Code.region _ _ true) s K) _ _ _ _ _ _); (with_reducible apply JoinT.mg2); (focus (cbv; (repeat' (first|((with_reducible apply And.intro <;> intro h) <;> (first|(with_reducible first|exact (tf h ‹_›).elim|exact (tf ‹_› h).elim)|cbv))|((with_reducible first|apply Cb.mk|apply Lz.mk|apply JoinT.left|(apply AllT.mk;intro x hx));cbv)|((with_reducible refine Ob.mk (fun _ => ?_) ?_);rotate_left 1)|(with_reducible first|refine Mg.mk (Exists.intro ?_ (And.intro ?_ ?_))|rfl|apply Fin.mk|exact True.intro|apply And.intro))); (all_goals (try (have du : Unit := (); have dv : Unit := (); first | exact Goes.self (Ex2.mk ⟨dv, du, trivial, trivial, rfl⟩) | exact Goes.self (Ex2.mk ⟨x, du, hx, trivial, rfl⟩) | (rename_i xa hxa; exact Goes.self (Ex2.mk ⟨xa, x, hxa, hx, rfl⟩))))); (all_goals (fail_if_success (with_reducible first | show Goes _ _ _ _ | show (∃ _, unr _ _ _ _ _ _)))))))|((with_reducible first|apply Cb.mk|apply Lz.mk|apply JoinT.left|(apply AllT.mk;intro x hx));cbv)|((with_reducible refine Ob.mk (fun _ => ?_) ?_);rotate_left 1)|(with_reducible first|refine Mg.mk (Exists.intro ?_ (And.intro ?_ ?_))|rfl|apply Fin.mk|exact True.intro|apply And.intro)))
 all_goals first|(with_reducible first|show (∃ _, unr _ _ _ _ _ _)|show UnrI _ _ _ _ _|show Goes _ _ _ _|show JoinT _ _ _ _ _ _ _)|((try ((try dsimp only [Shp.D, Shp.Ds, Shp.dflt] at *); simp only [vla, vem, veq, vln] at *; (try dsimp only [Shp.D, Shp.Ds, Shp.dflt, Shp.dflts] at *); first | done | omega | (unfold chkF; rw [if_pos (by omega)]; done) | (unfold chkF; rw [if_neg (by omega), if_pos (by omega)]; done) | skip)))
 have h8 : ¬ l.length = 0 ∧ ¬ 8 < l.length := by ((try dsimp only [Shp.D, Shp.Ds, Shp.dflt] at *); simp only [vla, vem, veq, vln] at *; (try dsimp only [Shp.D, Shp.Ds, Shp.dflt, Shp.dflts] at *); constructor <;> omega)
 have hc : chkF l = chkGo l 1 := by unfold chkF; rw [if_neg h8.1, if_neg h8.2]
 with_reducible refine loop_hv [] (3 :: 4 :: 5 :: 6 :: (rangeN 16 73)) [] [] (fun z b t y => 0 ≤ z 15 ∧ z 15 ≤ (l.length : Int) ∧ chkGo (l.drop (z 15).toNat) (z 15 + 1) = chkF l) (fun z b t y => ((l.length : Int) - z 15).toNat) (by cbv) (by cbv) ?_ ?_ (fun z1 b1 t1 u1 y1 R1 hP1 hR1 => ?_)
 ·exact EndOk.au
 ·intro zq bq tq yq hUq
  have q15 := hUq.z 15
  cbv at q15
  replace q15 := q15.eq
  simp only [atI, atB, atT, atY, convL_self, vem, veq, ne_eq, cmpI, arI, dvI, shI, SV.den] at q15
  clear hUq
  try dsimp only [Shp.D, Shp.Ds, Shp.dflt] at *
  try simp only [vla, vem, veq] at *
  rw [← q15]
  exact ⟨by omega, by omega, by rw [hc]; rfl⟩
 obtain ⟨p1, p2, p3⟩ := hP1
 cbv
 (repeat' (first|((with_reducible apply And.intro <;> intro h) <;> (first|(with_reducible first|exact (tf h ‹_›).elim|exact (tf ‹_› h).elim)|cbv)) | ((with_reducible show JoinT (fun s K => vc _ (Code.region _ _ true) s K) _ _ _ _ _ _); (with_reducible apply JoinT.mg2); (focus (cbv; (repeat' (first|((with_reducible apply And.intro <;> intro h) <;> (first|(with_reducible first|exact (tf h ‹_›).elim|exact (tf ‹_› h).elim)|cbv))|((with_reducible first|apply Cb.mk|apply Lz.mk|apply JoinT.left|(apply AllT.mk;intro x hx));cbv)|((with_reducible refine Ob.mk (fun _ => ?_) ?_);rotate_left 1)|(with_reducible first|refine Mg.mk (Exists.intro ?_ (And.intro ?_ ?_))|rfl|apply Fin.mk|exact True.intro|apply And.intro))); (all_goals (try (have du : Unit := (); have dv : Unit := (); first | exact Goes.self (Ex2.mk ⟨dv, du, trivial, trivial, rfl⟩) | exact Goes.self (Ex2.mk ⟨x, du, hx, trivial, rfl⟩) | (rename_i xa hxa; exact Goes.self (Ex2.mk ⟨xa, x, hxa, hx, rfl⟩))))); (all_goals (fail_if_success (with_reducible first | show Goes _ _ _ _ | show (∃ _, unr _ _ _ _ _ _)))))))|((with_reducible first|apply Cb.mk|apply Lz.mk|apply JoinT.left|(apply AllT.mk;intro x hx));cbv)|((with_reducible refine Ob.mk (fun _ => ?_) ?_);rotate_left 1)|(with_reducible first|refine Mg.mk (Exists.intro ?_ (And.intro ?_ ?_))|rfl|apply Fin.mk|exact True.intro|apply And.intro)))
 all_goals first|(with_reducible first|show (∃ _, unr _ _ _ _ _ _)|show UnrI _ _ _ _ _|show Goes _ _ _ _|show JoinT _ _ _ _ _ _ _)|((try ((try dsimp only [Shp.D, Shp.Ds, Shp.dflt] at *); simp only [vla, vem, veq, vln] at *; (try dsimp only [Shp.D, Shp.Ds, Shp.dflt, Shp.dflts] at *); first | done | omega | (exact chk_end p2 (by assumption) p3) | (exact ck_e p1 (by assumption) p3  (one_7 (by omega)) (by decide)) | (exact ck_e p1 (by assumption) p3  (one_5 (by omega) (by omega)) (by decide)) | (exact ck_e p1 (by assumption) p3  (one_20 (by omega) (by omega) (by simp_all; done)) (by decide)) | (exact ck_e p1 (by assumption) p3  (one_8 (by omega) (by omega) (by simp_all; done) (by omega)) (by decide)) | (exact ck_e p1 (by assumption) p3  (one_10 (by omega) (by omega) (by simp_all; done) (by omega)) (by decide)) | skip)))
 have hlt : z1 15 < (l.length : Int) := by ((try dsimp only [Shp.D, Shp.Ds, Shp.dflt] at *); simp only [vla, vem, veq, vln] at *; (try dsimp only [Shp.D, Shp.Ds, Shp.dflt, Shp.dflts] at *); assumption)
 have ho : oneF (l.getD (z1 15).toNat (0, 0, [], [], ())) (z1 15 + 1) = trsE [] (l.getD (z1 15).toNat (0, 0, [], [], ())).2.2.2.1 := by
  ((try dsimp only [Shp.D, Shp.Ds, Shp.dflt] at *); simp only [vla, vem, veq, vln] at *; (try dsimp only [Shp.D, Shp.Ds, Shp.dflt, Shp.dflts] at *); exact one_t (by omega) (by omega) (by simp_all; done) (by omega) (by omega))
 have h24 : (l.getD (z1 15).toNat (0, 0, [], [], ())).2.2.2.1.length ≤ 24 := by ((try dsimp only [Shp.D, Shp.Ds, Shp.dflt] at *); simp only [vla, vem, veq, vln] at *; (try dsimp only [Shp.D, Shp.Ds, Shp.dflt, Shp.dflts] at *); omega)
 with_reducible refine loop_hv [] (5 :: 6 :: (rangeN 57 30)) [] [] (fun z b t y => 0 ≤ z 56 ∧ z 56 ≤ ((l.getD (z1 15).toNat (0, 0, [], [], ())).2.2.2.1.length : Int) ∧ trsE ((l.getD (z1 15).toNat (0, 0, [], [], ())).2.2.2.1.take (z 56).toNat) ((l.getD (z1 15).toNat (0, 0, [], [], ())).2.2.2.1.drop (z 56).toNat) = trsE [] (l.getD (z1 15).toNat (0, 0, [], [], ())).2.2.2.1) (fun z b t y => (((l.getD (z1 15).toNat (0, 0, [], [], ())).2.2.2.1.length : Int) - z 56).toNat) (by cbv) (by cbv) ?_ ?_ (fun z2 b2 t2 u2 y2 R2 hP2 hR2 => ?_)
 ·exact EndOk.au
 ·intro zq bq tq yq hUq
  have q56 := hUq.z 56
  cbv at q56
  replace q56 := q56.eq
  simp only [atI, atB, atT, atY, convL_self, vem, veq, ne_eq, cmpI, arI, dvI, shI, SV.den] at q56
  clear hUq
  try dsimp only [Shp.D, Shp.Ds, Shp.dflt] at *
  try simp only [vla, vem, veq] at *
  rw [← q56]
  exact ⟨by omega, by omega, rfl⟩
 obtain ⟨r1, r2, r3⟩ := hP2
 cbv
 (repeat' (first|((with_reducible apply And.intro <;> intro h) <;> (first|(with_reducible first|exact (tf h ‹_›).elim|exact (tf ‹_› h).elim)|cbv)) | ((with_reducible show JoinT (fun s K => vc _ (Code.region _ _ true) s K) _ _ _ _ _ _); (with_reducible apply JoinT.mg2); (focus (cbv; (repeat' (first|((with_reducible apply And.intro <;> intro h) <;> (first|(with_reducible first|exact (tf h ‹_›).elim|exact (tf ‹_› h).elim)|cbv))|((with_reducible first|apply Cb.mk|apply Lz.mk|apply JoinT.left|(apply AllT.mk;intro x hx));cbv)|((with_reducible refine Ob.mk (fun _ => ?_) ?_);rotate_left 1)|(with_reducible first|refine Mg.mk (Exists.intro ?_ (And.intro ?_ ?_))|rfl|apply Fin.mk|exact True.intro|apply And.intro))); (all_goals (try (have du : Unit := (); have dv : Unit := (); first | exact Goes.self (Ex2.mk ⟨dv, du, trivial, trivial, rfl⟩) | exact Goes.self (Ex2.mk ⟨x, du, hx, trivial, rfl⟩) | (rename_i xa hxa; exact Goes.self (Ex2.mk ⟨xa, x, hxa, hx, rfl⟩))))); (all_goals (fail_if_success (with_reducible first | show Goes _ _ _ _ | show (∃ _, unr _ _ _ _ _ _)))))))|((with_reducible first|apply Cb.mk|apply Lz.mk|apply JoinT.left|(apply AllT.mk;intro x hx));cbv)|((with_reducible refine Ob.mk (fun _ => ?_) ?_);rotate_left 1)|(with_reducible first|refine Mg.mk (Exists.intro ?_ (And.intro ?_ ?_))|rfl|apply Fin.mk|exact True.intro|apply And.intro)))
 all_goals first|(with_reducible first|show (∃ _, unr _ _ _ _ _ _)|show UnrI _ _ _ _ _|show Goes _ _ _ _|show JoinT _ _ _ _ _ _ _)|(((try dsimp only [Shp.D, Shp.Ds, Shp.dflt] at *); simp only [vla, vem, veq, vln] at *; (try dsimp only [Shp.D, Shp.Ds, Shp.dflt, Shp.dflts] at *); first | done | ((try simp only [Int.toNat_zero, Nat.sub_zero, List.drop_zero] at *); first | omega | (refine ⟨?_, ?_, ?_, trivial⟩ <;> omega; done) | exact ck_e p1 hlt p3 (ho.trans (ts_5 r1 (by assumption) r3 (.inl (by assumption)))) (by decide) | exact ck_e p1 hlt p3 (ho.trans (ts_5 r1 (by assumption) r3 (.inr (.inl (by assumption))))) (by decide) | exact ck_e p1 hlt p3 (ho.trans (ts_5 r1 (by assumption) r3 (.inr (.inr (.inl (nb16 (by assumption))))))) (by decide) | exact ck_e p1 hlt p3 (ho.trans (ts_5 r1 (by assumption) r3 (.inr (.inr (.inr (nb16 (by assumption))))))) (by decide) | exact ck_e p1 hlt p3 (ho.trans (ts_9 r1 (by assumption) r3 (nbad (by assumption) (by assumption) (by assumption) (by assumption)) (by assumption))) (by decide) | skip)))
 all_goals first
  | (((with_reducible refine hR2 _ ?_ (fun zq bq tq yq hUq => ?_)); (focus (exact EndOk.au)); (have q56 := hUq.z 56); (cbv at q56); (replace q56 := q56.eq); (simp only [atI, atB, atT, atY, convL_self, vem, veq, ne_eq, cmpI, arI, dvI, shI, SV.den] at q56); (clear hUq hR2); (try dsimp only [Shp.D, Shp.Ds, Shp.dflt] at *); (try simp only [vem, veq, ne_eq, cmpI, arI, dvI, shI, SV.den, elemAt, convL_self] at *); (try dsimp only [Shp.D, Shp.Ds, Shp.dflt, Shp.dflts] at *)); (try ((try dsimp only [Shp.D, Shp.Ds, Shp.dflt] at *); simp only [vla, vem, veq, vln] at *; (try dsimp only [Shp.D, Shp.Ds, Shp.dflt, Shp.dflts] at *))); (try simp only [Int.toNat_zero, Nat.sub_zero, List.drop_zero] at *); exact ts_n r1 (by assumption) r3 (nbad (by assumption) (by assumption) (by assumption) (by assumption)) (by assumption) h24 q56)
  | (((with_reducible refine hR1 _ ?_ (fun zq bq tq yq hUq => ?_)); (focus (exact EndOk.au)); (have q15 := hUq.z 15); (cbv at q15); (replace q15 := q15.eq); (simp only [atI, atB, atT, atY, convL_self, vem, veq, ne_eq, cmpI, arI, dvI, shI, SV.den] at q15); (clear hUq hR1); (try dsimp only [Shp.D, Shp.Ds, Shp.dflt] at *); (try simp only [vem, veq, ne_eq, cmpI, arI, dvI, shI, SV.den, elemAt, convL_self] at *); (try dsimp only [Shp.D, Shp.Ds, Shp.dflt, Shp.dflts] at *)); exact ck_n p1 hlt p3 (ho.trans (ts_e (by assumption) r3)) (by omega) q15)
theorem pck_sp {E : Env} (hE : E.ok) : SpecOk Tryz.prog E 124 chkS := fnFn_of (pck_sp0 hE) fun (x : Shp.Ds [.sl prE]) (y : Shp.Ds [.int .i64]) h => by rw [← h]
end
end Go.Proofs.YtkifmppmfkpfbaaGreat.V
