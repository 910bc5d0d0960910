import Derived.Test.YtkifmppmfkpfbaaGreatW01
import Derived.Test.YtkifmppmfkpfbaaGreatW21
import Derived.Test.YtkifmppmfkpfbaaGreatW19
import Derived.Test.YtkifmppmfkpfbaaGreatW17
import Derived.Test.YtkifmppmfkpfbaaGreatW18
set_option linter.unusedVariables false
set_option linter.unusedSimpArgs false
namespace Go.Proofs.YtkifmppmfkpfbaaGreat.V
open Go.RowKit
section
set_option maxHeartbeats 8000000
def cntI (t : Nat → Int) (k : Int) : Nat → Int
 | 0 => 0
 | n + 1 => cntI t k n + (if t n = k then 1 else 0)
def anyI (p : Nat → Bool) : Nat → Bool
 | 0 => false
 | n + 1 => anyI p n || p n
theorem anyI_iff {p : Nat → Bool} {n : Nat} : anyI p n = true ↔ ∃ i, i < n ∧ p i = true := by
 induction n with
 | zero => exact ⟨fun h => (by cases h), fun ⟨i, h, _⟩ => (by omega)⟩
 | succ n ih =>
   simp only [anyI, Bool.or_eq_true, ih]
   constructor
   ·rintro (⟨i, h1, h2⟩ | h)
    ·exact ⟨i, by omega, h2⟩
    ·exact ⟨n, by omega, h⟩
   ·rintro ⟨i, h1, h2⟩
    rcases (by omega : i < n ∨ i = n) with h | h
    ·exact .inl ⟨i, h, h2⟩
    ·subst h; exact .inr h2
theorem cntI_rng (t : Nat → Int) (k : Int) (n : Nat) : 0 ≤ cntI t k n ∧ cntI t k n ≤ n := by
 induction n with
 | zero => exact ⟨by rw [cntI]; omega, by rw [cntI]; omega⟩
 | succ n ih => rw [cntI]; split <;> omega
def freeT (k : Int) : Bool := k == 41 || k == 43 || k == 37 || k == 42
def sealT (k : Int) : Bool := k == 46 || k == 53
def twI (t : Nat → Int) (N n : Nat) : Bool := anyI (fun i => !freeT (t i) && decide (1 < cntI t (t i) N)) n
def hidI (t : Nat → Int) (n : Nat) : Bool := anyI (fun i => sealT (t i)) n
def faiI (t w : Nat → Int) (n : Nat) : Bool := anyI (fun i => t i == 41 && decide (w i < 16384)) n
def cooI (t w : Nat → Int) (n : Nat) : Bool := anyI (fun i => t i == 41 && w i == 16390) n
def needT (q : Bool) (x : Int) : List Int :=
 if x = 34 then [33, 34, 40] else if x = 35 then [if q then 35 else 36, 39, 33, 44, 45] else if x = 36 then [33, 40] else []
def chaI (t w : Nat → Int) (n : Nat) : Bool := cooI t w n && decide (cntI t 41 n + cntI t 43 n = n)
def comI (q : Bool) (x : Int) (t w : Nat → Int) (n : Nat) : Bool :=
 if (needT q x).all (fun k => !(cntI t k n == 0)) then true else decide (x = 34) && chaI t w n
def chkI (q : Bool) (x : Int) (t w : Nat → Int) (n : Nat) : Int :=
 if twI t n n then 9
 else if hidI t n && decide (1 < n) then 7
 else if hidI t n || faiI t w n then 0
 else if !comI q x t w n || !(cntI t 44 n == cntI t 45 n) then 8 else 0
end
section
set_option maxHeartbeats 8000000
set_option maxRecDepth 100000
def tyP (l : List PlT) (i : Nat) : Int := (l.getD i pl0).1
def noP (l : List PlT) (i : Nat) : Int := (l.getD i pl0).2.2.2.2.2.1.2.2.1
theorem cnt_fn : hasFn Tryz.prog 40 := ⟨_, Tryz.func40, by rfl, by rfl⟩
abbrev cntSp : Spec := fnSpec [msgE, .int .i64] [.int .i64] [] (fun _ => True) fun (x : Shp.Ds [msgE, .int .i64]) (y : Shp.Ds [.int .i64]) => y.1 = cntI (tyP x.1.2.1) x.2.1 x.1.2.1.length
theorem cnt_sp0 {E : Env} (hE : E.ok) : SpecOk Tryz.prog E 40 cntSp := by
 refine spec_of_vc (C := noC) cnt_fn Tryz.func40 (by kernel_rfl) noC_cx (fun x hl hx => ?_) hE
 obtain ⟨⟨hd, l, ⟨⟩⟩, k, ⟨⟩⟩ := x
 have hlen : (l.length : Int) ≤ 140737488355328 := by simp only [Shp.lims, Shp.lim] at hl; omega
 cbv
 (repeat' (first|((with_reducible apply And.intro <;> intro h) <;> (first|(with_reducible first|exact (tf h ‹_›).elim|exact (tf ‹_› h).elim)|cbv))|((with_reducible first|apply Cb.mk|apply Lz.mk|apply JoinT.left|(apply AllT.mk;intro x hx));cbv)|((with_reducible refine Ob.mk (fun _ => ?_) ?_);rotate_left 1)|(with_reducible first|refine Mg.mk (Exists.intro ?_ (And.intro ?_ ?_))|rfl|apply Fin.mk|exact True.intro|apply And.intro)))
 all_goals first|(with_reducible first|show (∃ _, unr _ _ _ _ _ _)|show UnrI _ _ _ _ _|show Goes _ _ _ _|show JoinT _ _ _ _ _ _ _)|((try ((try dsimp only [Shp.D, Shp.Ds, Shp.dflt] at *); simp only [vla, vem, veq, vln] at *; (try dsimp only [Shp.D, Shp.Ds, Shp.dflt, Shp.dflts] at *); first | done | omega | skip)))
 with_reducible refine loop_hv [] (7 :: rangeN 12 10) [] [] (fun z b t y => 0 ≤ z 11 ∧ z 11 ≤ (l.length : Int) ∧ z 5 = cntI (tyP l) k (z 11).toNat) (fun z b t y => ((l.length : Int) - z 11).toNat) (by cbv) (by cbv) ?_ ?_ (fun z1 b1 t1 u1 y1 R1 hP1 hR1 => ?_)
 ·exact EndOk.au
 ·intro zq bq tq yq hUq
  have q5 := hUq.z 5
  have q11 := hUq.z 11
  cbv at q5 q11
  replace q5 := q5.eq
  replace q11 := q11.eq
  simp only [atI, atB, atT, atY, convL_self, vem, veq, ne_eq, cmpI, arI, dvI, shI, SV.den] at q5 q11
  clear hUq
  try dsimp only [Shp.D, Shp.Ds, Shp.dflt] at *
  try simp only [vla, vem, veq] at *
  rw [← q5, ← q11]
  exact ⟨by omega, by omega, rfl⟩
 obtain ⟨p1, p2, p3⟩ := hP1
 have hc := cntI_rng (tyP l) k (z1 11).toNat
 cbv
 (repeat' (first|((with_reducible apply And.intro <;> intro h) <;> (first|(with_reducible first|exact (tf h ‹_›).elim|exact (tf ‹_› h).elim)|cbv))|((with_reducible first|apply Cb.mk|apply Lz.mk|apply JoinT.left|(apply AllT.mk;intro x hx));cbv)|((with_reducible refine Ob.mk (fun _ => ?_) ?_);rotate_left 1)|(with_reducible first|refine Mg.mk (Exists.intro ?_ (And.intro ?_ ?_))|rfl|apply Fin.mk|exact True.intro|apply And.intro)))
 all_goals first
  | (with_reducible show Goes _ _ _ _; skip)
  | (try ((try dsimp only [Shp.D, Shp.Ds, Shp.dflt] at *); simp only [vla, vem, veq, vln] at *; (try dsimp only [Shp.D, Shp.Ds, Shp.dflt, Shp.dflts] at *); first | done | omega | (rw [p3, show (z1 11).toNat = l.length by omega]) | skip))
 all_goals
  (((with_reducible refine hR1 _ ?_ (fun zq bq tq yq hUq => ?_)); (focus (exact EndOk.au)); (have q5 := hUq.z 5); (have q11 := hUq.z 11); (cbv at q5 q11); (replace q5 := q5.eq); (replace q11 := q11.eq); (simp only [atI, atB, atT, atY, convL_self, vem, veq, ne_eq, cmpI, arI, dvI, shI, SV.den] at q5 q11); (clear hUq hR1); (try dsimp only [Shp.D, Shp.Ds, Shp.dflt] at *); (try simp only [vem, veq, ne_eq, cmpI, arI, dvI, shI, SV.den, elemAt, convL_self] at *); (try dsimp only [Shp.D, Shp.Ds, Shp.dflt, Shp.dflts] at *))); (try ((try dsimp only [Shp.D, Shp.Ds, Shp.dflt] at *); simp only [vla, vem, veq, vln] at *; (try dsimp only [Shp.D, Shp.Ds, Shp.dflt, Shp.dflts] at *)))
  refine ⟨⟨by omega, by omega, ?_⟩, by omega⟩
  rw [show (zq 11).toNat = (z1 11).toNat + 1 by omega, cntI, ← p3]
  first
   | (rw [if_pos (show tyP l (z1 11).toNat = k from h)]; omega)
   | (rw [if_neg (show ¬ tyP l (z1 11).toNat = k from h)]; omega)
def cooK (t w : Nat → Int) (k : Int) (n : Nat) : Bool := anyI (fun i => t i == 41 && w i == k) n
theorem coo_yes {t w : Nat → Int} {k : Int} {n : Nat} (h1 : t n = 41) (h2 : w n = k) : cooK t w k (n + 1) = true := by simp [cooK, anyI, h1, h2]
theorem coo_no1 {t w : Nat → Int} {k : Int} {n : Nat} (h : ¬ t n = 41) : cooK t w k (n + 1) = cooK t w k n := by simp [cooK, anyI, h]
theorem coo_no2 {t w : Nat → Int} {k : Int} {n : Nat} (h : ¬ w n = k) : cooK t w k (n + 1) = cooK t w k n := by simp [cooK, anyI, h]
structure FewP (n : Nat) : Prop where
 h : n ≤ 1000000
theorem nts_fn : hasFn Tryz.prog 87 := ⟨_, Tryz.func87, by rfl, by rfl⟩
abbrev ntsSp : Spec := fnSpecT [msgE, .int .i64] [none, none] [.sl notE] [.sh] [0] (fun (x : Shp.Ds [msgE, .int .i64]) => FewP x.1.2.1.length) fun (x : Shp.Ds [msgE, .int .i64]) (y : Shp.Ds [.sl notE]) => decide (0 < y.1.length) = cooK (tyP x.1.2.1) (noP x.1.2.1) x.2.1 x.1.2.1.length
theorem nts_sp {E : Env} (hE : E.ok) : SpecOk Tryz.prog E 87 ntsSp := by
 refine spec_of_vcT (C := noC) nts_fn Tryz.func87 (by kernel_rfl) noC_cx (fun x hl hx => ?_) hE
 obtain ⟨⟨hd, l, ⟨⟩⟩, k, ⟨⟩⟩ := x
 have hlen : l.length ≤ 1000000 := hx.h
 cbv
 (repeat' (first|((with_reducible apply And.intro <;> intro h) <;> (first|(with_reducible first|exact (tf h ‹_›).elim|exact (tf ‹_› h).elim)|cbv))|((with_reducible first|apply Cb.mk|apply Lz.mk|apply JoinT.left|(apply AllT.mk;intro x hx));cbv)|((with_reducible refine Ob.mk (fun _ => ?_) ?_);rotate_left 1)|(with_reducible first|refine Mg.mk (Exists.intro ?_ (And.intro ?_ ?_))|rfl|apply Fin.mk|exact True.intro|apply And.intro)))
 all_goals first|(with_reducible first|show (∃ _, unr _ _ _ _ _ _)|show UnrI _ _ _ _ _|show Goes _ _ _ _|show JoinT _ _ _ _ _ _ _)|((try ((try dsimp only [Shp.D, Shp.Ds, Shp.dflt] at *); simp only [vla, vem, veq, vln] at *; (try dsimp only [Shp.D, Shp.Ds, Shp.dflt, Shp.dflts] at *); first | done | omega | skip)))
 with_reducible refine loop_hv [(5, 910001, 43, notE)] (7 :: rangeN 12 19) [] [910001] (fun z b t y => 0 ≤ z 11 ∧ z 11 ≤ (l.length : Int) ∧ decide (0 < (y 910001 notE).length) = cooK (tyP l) (noP l) k (z 11).toNat ∧ ((y 910001 notE).length : Int) ≤ z 11) (fun z b t y => ((l.length : Int) - z 11).toNat) (by cbv) (by cbv) ?_ ?_ (fun z1 b1 t1 u1 y1 R1 hP1 hR1 => ?_)
 ·exact EndOk.au
 ·intro zq bq tq yq hUq
  have q11 := hUq.z 11
  have qy910001 := hUq.y 910001 (notE)
  cbv at q11 qy910001
  replace q11 := q11.eq
  replace qy910001 := qy910001.eq
  simp only [atI, atB, atT, atY, convL_self, vem, veq, ne_eq, cmpI, arI, dvI, shI, SV.den] at q11 qy910001
  clear hUq
  try dsimp only [Shp.D, Shp.Ds, Shp.dflt] at *
  try simp only [vla, vem, veq] at *
  rw [← q11, ← qy910001]
  exact ⟨by omega, by omega, rfl, by simp⟩
 obtain ⟨p1, p2, p3, p4⟩ := hP1
 cbv
 (repeat' (first|((with_reducible apply And.intro <;> intro h) <;> (first|(with_reducible first|exact (tf h ‹_›).elim|exact (tf ‹_› h).elim)|cbv))|((with_reducible first|apply Cb.mk|apply Lz.mk|apply JoinT.left|(apply AllT.mk;intro x hx));cbv)|((with_reducible refine Ob.mk (fun _ => ?_) ?_);rotate_left 1)|(with_reducible first|refine Mg.mk (Exists.intro ?_ (And.intro ?_ ?_))|rfl|apply Fin.mk|exact True.intro|apply And.intro)))
 all_goals first
  | (with_reducible show Goes _ _ _ _; skip)
  | (try ((try dsimp only [Shp.D, Shp.Ds, Shp.dflt] at *); simp only [vla, vem, veq, vln] at *; (try dsimp only [Shp.D, Shp.Ds, Shp.dflt, Shp.dflts] at *); first | done | omega | (rw [p3, show (z1 11).toNat = l.length by omega]) | skip))
 all_goals
  (((with_reducible refine hR1 _ ?_ (fun zq bq tq yq hUq => ?_)); (focus (exact EndOk.au)); (have q11 := hUq.z 11); (have qy910001 := hUq.y 910001 (notE)); (cbv at q11 qy910001); (replace q11 := q11.eq); (replace qy910001 := qy910001.eq); (simp only [atI, atB, atT, atY, convL_self, vem, veq, ne_eq, cmpI, arI, dvI, shI, SV.den] at q11 qy910001); (clear hUq hR1); (try dsimp only [Shp.D, Shp.Ds, Shp.dflt] at *); (try simp only [vem, veq, ne_eq, cmpI, arI, dvI, shI, SV.den, elemAt, convL_self] at *); (try dsimp only [Shp.D, Shp.Ds, Shp.dflt, Shp.dflts] at *))); (try ((try dsimp only [Shp.D, Shp.Ds, Shp.dflt] at *); simp only [vla, vem, veq, vln] at *; (try dsimp only [Shp.D, Shp.Ds, Shp.dflt, Shp.dflts] at *)))
  rw [← qy910001, show (zq 11).toNat = (z1 11).toNat + 1 by omega]
  first
   | (rw [coo_yes (t := tyP l) (w := noP l) (n := (z1 11).toNat) (by assumption) h]
      refine ⟨⟨by omega, by omega, ?_, ?_⟩, by omega⟩
      ·simp
      ·simp only [List.length_append, List.length_cons, List.length_nil]
       omega)
   | (rw [coo_no2 (t := tyP l) (w := noP l) (n := (z1 11).toNat) h]
      exact ⟨⟨by omega, by omega, p3, by omega⟩, by omega⟩)
   | (rw [coo_no1 (t := tyP l) (w := noP l) (n := (z1 11).toNat) h]
      exact ⟨⟨by omega, by omega, p3, by omega⟩, by omega⟩)
abbrev cntFn : Spec := fnFn [msgE, .int .i64] [.int .i64] (fun _ => True) fun (x : Shp.Ds [msgE, .int .i64]) => (cntI (tyP x.1.2.1) x.2.1 x.1.2.1.length, ())
theorem cnt_sp {E : Env} (hE : E.ok) : SpecOk Tryz.prog E 40 cntFn := fnFn_of (cnt_sp0 hE) fun (x : Shp.Ds [msgE, .int .i64]) (y : Shp.Ds [.int .i64]) h => by rw [← h]
theorem cha_1 {t w : Nat → Int} {m n : Nat} {P : Prop} (hx : decide (0 < n) = cooK t w 16390 m ∧ P) (h : (n : Int) > 0) (hm : m ≤ 1000000) : ((cntI t 41 m + cntI t 43 m + 9223372036854775808) % 18446744073709551616 - 9223372036854775808 == (m : Int)) = chaI t w m := by
 have r1 := cntI_rng t 41 m
 have r2 := cntI_rng t 43 m
 have c : cooI t w m = true := by
  show cooK t w 16390 m = true
  rw [← hx.1, decide_eq_true_iff]
  omega
 unfold chaI
 rw [c, Bool.true_and, show (cntI t 41 m + cntI t 43 m + 9223372036854775808) % 18446744073709551616 - 9223372036854775808 = cntI t 41 m + cntI t 43 m by omega]
 by_cases hq : cntI t 41 m + cntI t 43 m = (m : Int) <;> simp [hq]
theorem cha_2 {t w : Nat → Int} {m n : Nat} {P : Prop} (hx : decide (0 < n) = cooK t w 16390 m ∧ P) (h : ¬ (n : Int) > 0) : false = chaI t w m := by
 have c : cooI t w m = false := by
  show cooK t w 16390 m = false
  rw [← hx.1, decide_eq_false_iff_not]
  omega
 unfold chaI
 rw [c, Bool.false_and]
def chC_t : SpecT := nd0 87 (lf0 40 (cntFn)) (lf0 87 (ntsSp))
def chC : Cx := ⟨tt, qt, bt, st, chC_t, 0, 1000000000000000, fun _ => none, false, CxE.no, []⟩
theorem chC_si {E : Env} (h : E.ok) : SpecsOk Tryz.prog E (CxE.no) chC_t (fun _ => none) := ⟨(nd0_ok (lf0_ok (.inl (cnt_sp h))) (lf0_ok (.inl (nts_sp h)))), noI_ok _ _ _⟩
theorem chC_x {E : Env} (h : E.ok) : CxEOk Tryz.prog E (CxE.no) := CxE.no_ok _ _
theorem chC_cx (E : Env) (h : E.ok) (h1 : E.lo = 0) (h2 : E.hi = 1000000000000000) : Cx.ok chC Tryz.prog E := ⟨tt_ok, qt_ok, bt_ok, chC_si h, h, h1, h2, mixed_ok, chC_x h⟩
theorem cha_fn : hasFn Tryz.prog 69 := ⟨_, Tryz.func69, by rfl, by rfl⟩
abbrev chaSp : Spec := fnSpec [msgE] [.bool] [] (fun (x : Shp.Ds [msgE]) => FewP x.1.2.1.length) fun (x : Shp.Ds [msgE]) (y : Shp.Ds [.bool]) => y.1 = chaI (tyP x.1.2.1) (noP x.1.2.1) x.1.2.1.length
theorem cha_sp {E : Env} (hE : E.ok) : SpecOk Tryz.prog E 69 chaSp := by
 refine spec_of_vc (C := chC) cha_fn Tryz.func69 (by kernel_rfl) chC_cx (fun x hl hx => ?_) hE
 obtain ⟨⟨hd, l, ⟨⟩⟩, ⟨⟩⟩ := x
 have hlen : l.length ≤ 1000000 := hx.h
 cbv
 (repeat' (first|((with_reducible apply And.intro <;> intro h) <;> (first|(with_reducible first|exact (tf h ‹_›).elim|exact (tf ‹_› h).elim)|cbv)) | ((with_reducible show JoinT (fun s K => vc _ (Code.region _ _ true) s K) _ _ _ _ _ _); (with_reducible apply JoinT.mg2); (focus (cbv; (repeat' (first|((with_reducible apply And.intro <;> intro h) <;> (first|(with_reducible first|exact (tf h ‹_›).elim|exact (tf ‹_› h).elim)|cbv))|((with_reducible first|apply Cb.mk|apply Lz.mk|apply JoinT.left|(apply AllT.mk;intro x hx));cbv)|((with_reducible refine Ob.mk (fun _ => ?_) ?_);rotate_left 1)|(with_reducible first|refine Mg.mk (Exists.intro ?_ (And.intro ?_ ?_))|rfl|apply Fin.mk|exact True.intro|apply And.intro))); (all_goals (try (have du : Unit := (); have dv : Unit := (); first | exact Goes.self (Ex2.mk ⟨dv, du, trivial, trivial, rfl⟩) | exact Goes.self (Ex2.mk ⟨x, du, hx, trivial, rfl⟩) | (rename_i xa hxa; exact Goes.self (Ex2.mk ⟨xa, x, hxa, hx, rfl⟩))))); (all_goals (fail_if_success (with_reducible first | show Goes _ _ _ _ | show (∃ _, unr _ _ _ _ _ _)))))))|((with_reducible first|apply Cb.mk|apply Lz.mk|apply JoinT.left|(apply AllT.mk;intro x hx));cbv)|((with_reducible refine Ob.mk (fun _ => ?_) ?_);rotate_left 1)|(with_reducible first|refine Mg.mk (Exists.intro ?_ (And.intro ?_ ?_))|rfl|apply Fin.mk|exact True.intro|apply And.intro)))
 all_goals first|(with_reducible first|show (∃ _, unr _ _ _ _ _ _)|show UnrI _ _ _ _ _|show Goes _ _ _ _|show JoinT _ _ _ _ _ _ _)|(((try dsimp only [Shp.D, Shp.Ds, Shp.dflt] at *); simp only [vla, vem, veq, vln] at *; (try dsimp only [Shp.D, Shp.Ds, Shp.dflt, Shp.dflts] at *); first | done | omega | (exact cha_1 hx h hlen) | (exact cha_2 hx h)))
def reqF (h : HdT) : Bool := bits .and .i64 h.2.2.2.2.1 32 == 0
abbrev reqFn : Spec := fnFn [hdE] [.bool] (fun _ => True) fun (x : Shp.Ds [hdE]) => (reqF x.1, ())
theorem req_fn : hasFn Tryz.prog 68 := ⟨_, Tryz.func68, by rfl, by rfl⟩
theorem req_sp {E : Env} (hE : E.ok) : SpecOk Tryz.prog E 68 reqFn := by
 refine fnFn_of (post := fun (x : Shp.Ds [hdE]) (y : Shp.Ds [.bool]) => y.1 = reqF x.1) (spec_of_vc (C := noC) req_fn Tryz.func68 (by kernel_rfl) noC_cx (fun x hl hx => ?_) hE) fun (x : Shp.Ds [hdE]) (y : Shp.Ds [.bool]) h => by rw [← h]
 obtain ⟨⟨i1, r1, n1, x1, f1, d1, ⟨⟩⟩, ⟨⟩⟩ := x
 cbv
 (repeat' (first|((with_reducible apply And.intro <;> intro h) <;> (first|(with_reducible first|exact (tf h ‹_›).elim|exact (tf ‹_› h).elim)|cbv))|((with_reducible first|apply Cb.mk|apply Lz.mk|apply JoinT.left|(apply AllT.mk;intro x hx));cbv)|((with_reducible refine Ob.mk (fun _ => ?_) ?_);rotate_left 1)|(with_reducible first|refine Mg.mk (Exists.intro ?_ (And.intro ?_ ?_))|rfl|apply Fin.mk|exact True.intro|apply And.intro)))
 all_goals first|(with_reducible first|show (∃ _, unr _ _ _ _ _ _)|show UnrI _ _ _ _ _|show Goes _ _ _ _|show JoinT _ _ _ _ _ _ _)|((try ((try dsimp only [Shp.D, Shp.Ds, Shp.dflt] at *); simp only [vla, vem, veq, vln] at *; (try dsimp only [Shp.D, Shp.Ds, Shp.dflt, Shp.dflts] at *); first | done | omega | rfl | skip)))
end
section
set_option maxHeartbeats 8000000
set_option maxRecDepth 100000
def kyN : CxE := ⟨0, fun _ => False, fun t => match nBeq t 3 with | true => some (.int .i64) | false => none, fun _ _ _ _ _ _ _ => False, false⟩
theorem kyN_ok {E : Env} (hE : E.ok) : CxEOk Tryz.prog E kyN := by
 refine ⟨fun t e h => ?_, fun l lo hi id args s K _ _ h => h.elim⟩
 unfold kyN at h
 simp only at h
 split at h
 ·rename_i hb
  cases h
  rw [nBeq_eq hb]
  exact ky_int (k := .i64) rfl
 ·cases h
def coC_t : SpecT := nd0 68 (lf0 40 (cntFn)) (nd0 69 (lf0 68 (reqFn)) (lf0 69 (chaSp)))
def coC : Cx := ⟨tt, qt, bt, st, coC_t, 0, 1000000000000000, fun _ => none, false, kyN, []⟩
theorem coC_si {E : Env} (h : E.ok) : SpecsOk Tryz.prog E (kyN) coC_t (fun _ => none) := ⟨(nd0_ok (lf0_ok (.inl (cnt_sp h))) (nd0_ok (lf0_ok (.inl (req_sp h))) (lf0_ok (.inl (cha_sp h))))), noI_ok _ _ _⟩
theorem coC_x {E : Env} (h : E.ok) : CxEOk Tryz.prog E (kyN) := kyN_ok h
theorem coC_cx (E : Env) (h : E.ok) (h1 : E.lo = 0) (h2 : E.hi = 1000000000000000) : Cx.ok coC Tryz.prog E := ⟨tt_ok, qt_ok, bt_ok, coC_si h, h, h1, h2, mixed_ok, coC_x h⟩
theorem com_fn : hasFn Tryz.prog 41 := ⟨_, Tryz.func41, by rfl, by rfl⟩
abbrev comSp : Spec := fnSpec [msgE] [.bool] [] (fun (x : Shp.Ds [msgE]) => FewP x.1.2.1.length) fun (x : Shp.Ds [msgE]) (y : Shp.Ds [.bool]) => y.1 = comI (reqF x.1.1) x.1.1.2.2.2.1 (tyP x.1.2.1) (noP x.1.2.1) x.1.2.1.length
theorem need_t (x : Int) : lookD (.int .i64) (.sl (.int .i64)) ([] ++ [(34, [33, 34, 40], ())] ++ [(35, [35, 39, 33, 44, 45], ())] ++ [(36, [33, 40], ())]) x [] = needT true x := by
 by_cases h1 : x = 34
 ·subst h1; rfl
 ·by_cases h2 : x = 35
  ·subst h2; rfl
  ·by_cases h3 : x = 36
   ·subst h3; rfl
   ·have e1 : ((34 : Int) == x) = false := beq_eq_false_iff_ne.2 (Ne.symm h1)
    have e2 : ((35 : Int) == x) = false := beq_eq_false_iff_ne.2 (Ne.symm h2)
    have e3 : ((36 : Int) == x) = false := beq_eq_false_iff_ne.2 (Ne.symm h3)
    simp [needT, h1, h2, h3, lookD, lookO, Shp.eqD, intEq, e1, e2, e3]
theorem need_f (x : Int) : lookD (.int .i64) (.sl (.int .i64)) ([] ++ [(34, [33, 34, 40], ())] ++ [(35, [36, 39, 33, 44, 45], ())] ++ [(36, [33, 40], ())]) x [] = needT false x := by
 by_cases h1 : x = 34
 ·subst h1; rfl
 ·by_cases h2 : x = 35
  ·subst h2; rfl
  ·by_cases h3 : x = 36
   ·subst h3; rfl
   ·have e1 : ((34 : Int) == x) = false := beq_eq_false_iff_ne.2 (Ne.symm h1)
    have e2 : ((35 : Int) == x) = false := beq_eq_false_iff_ne.2 (Ne.symm h2)
    have e3 : ((36 : Int) == x) = false := beq_eq_false_iff_ne.2 (Ne.symm h3)
    simp [needT, h1, h2, h3, lookD, lookO, Shp.eqD, intEq, e1, e2, e3]
theorem com_1 {q : Bool} {x : Int} {t w : Nat → Int} {n : Nat} {z : Int} (h0 : 0 ≤ z) (h1 : z < ((needT q x).length : Int)) (hc : cntI t ((needT q x).getD z.toNat 0) n = 0) : comI q x t w n = (decide (x = 34) && chaI t w n) := by
 unfold comI
 rw [if_neg]
 intro hall
 rw [List.all_eq_true] at hall
 have hz : z.toNat < (needT q x).length := by omega
 have := hall _ (List.getElem_mem hz)
 rw [List.getD_eq_getElem?_getD, List.getElem?_eq_getElem hz] at hc
 simp only [Option.getD_some] at hc
 rw [hc] at this
 exact absurd this (by decide)
theorem com_2 {q : Bool} {x : Int} {t w : Nat → Int} {n : Nat} {z : Int} (h1 : ¬ z < ((needT q x).length : Int)) (hc : ∀ i : Nat, (i : Int) < z → ¬ cntI t ((needT q x).getD i 0) n = 0) : true = comI q x t w n := by
 unfold comI
 rw [if_pos]
 rw [List.all_eq_true]
 intro k hk
 obtain ⟨i, hi, rfl⟩ := List.getElem_of_mem hk
 have := hc i (by omega)
 rw [List.getD_eq_getElem?_getD, List.getElem?_eq_getElem hi] at this
 simpa using this
theorem com_3 {q : Bool} {x : Int} {t w : Nat → Int} {n : Nat} {z : Int} {c : Bool} {P : Prop} (hx : c = chaI t w n ∧ P) (h : x = 34) (h0 : 0 ≤ z) (h1 : z < ((needT q x).length : Int)) (hc : cntI t ((needT q x).getD z.toNat 0) n = 0) : c = comI q x t w n := by
 rw [com_1 h0 h1 hc, h, hx.1]
 simp
theorem com_4 {q : Bool} {x : Int} {t w : Nat → Int} {n : Nat} {z : Int} (h : ¬ x = 34) (h0 : 0 ≤ z) (h1 : z < ((needT q x).length : Int)) (hc : cntI t ((needT q x).getD z.toNat 0) n = 0) : false = comI q x t w n := by
 rw [com_1 h0 h1 hc]
 simp [h]
theorem com_sp {E : Env} (hE : E.ok) : SpecOk Tryz.prog E 41 comSp := by
 refine spec_of_vc (C := coC) com_fn Tryz.func41 (by kernel_rfl) coC_cx (fun x hl hx => ?_) hE
 obtain ⟨⟨⟨i1, r1, n1, x1, f1, d1, ⟨⟩⟩, l, ⟨⟩⟩, ⟨⟩⟩ := x
 have hlen : l.length ≤ 1000000 := hx.h
 have hnt : (needT (reqF (i1, r1, n1, x1, f1, d1, PUnit.unit)) x1).length ≤ 5 := by
  unfold needT
  split
  ·decide
  ·split
   ·simp
   ·split <;> simp
 cbv
 (repeat' (first|((with_reducible apply And.intro <;> intro h) <;> (first|(with_reducible first|exact (tf h ‹_›).elim|exact (tf ‹_› h).elim)|cbv))|((with_reducible first|apply Cb.mk|apply Lz.mk|apply JoinT.left|(apply AllT.mk;intro x hx));cbv)|((with_reducible refine Ob.mk (fun _ => ?_) ?_);rotate_left 1)|(with_reducible first|refine Mg.mk (Exists.intro ?_ (And.intro ?_ ?_))|rfl|apply Fin.mk|exact True.intro|apply And.intro)))
 all_goals first|(with_reducible first|show (∃ _, unr _ _ _ _ _ _)|show UnrI _ _ _ _ _|show Goes _ _ _ _|show JoinT _ _ _ _ _ _ _)|((try ((try dsimp only [Shp.D, Shp.Ds, Shp.dflt] at *); simp only [vla, vem, veq, vln] at *; (try dsimp only [Shp.D, Shp.Ds, Shp.dflt, Shp.dflts] at *); first | done | omega | rfl | skip)))
 all_goals
  with_reducible refine loop_hv [] (6 :: 11 :: 13 :: 14 :: rangeN 23 16) [] [] (fun z b t y => 0 ≤ z 22 ∧ z 22 ≤ ((needT (reqF (i1, r1, n1, x1, f1, d1, PUnit.unit)) x1).length : Int) ∧ ∀ i : Nat, (i : Int) < z 22 → ¬ cntI (tyP l) ((needT (reqF (i1, r1, n1, x1, f1, d1, PUnit.unit)) x1).getD i 0) l.length = 0) (fun z b t y => (((needT (reqF (i1, r1, n1, x1, f1, d1, PUnit.unit)) x1).length : Int) - z 22).toNat) (by cbv) (by cbv) ?_ ?_ (fun z1 b1 t1 u1 y1 R1 hP1 hR1 => ?_)
  ·exact EndOk.au
  ·intro zq bq tq yq hUq
   have q22 := hUq.z 22
   cbv at q22
   replace q22 := q22.eq
   simp only [atI, atB, atT, atY, convL_self, vem, veq, ne_eq, cmpI, arI, dvI, shI, SV.den] at q22
   clear hUq
   try dsimp only [Shp.D, Shp.Ds, Shp.dflt] at *
   try simp only [vla, vem, veq] at *
   rw [← q22]
   exact ⟨by omega, by omega, fun i hi => by omega⟩
  obtain ⟨p1, p2, p3⟩ := hP1
  cbv
  (repeat' (first|((with_reducible apply And.intro <;> intro h) <;> (first|(with_reducible first|exact (tf h ‹_›).elim|exact (tf ‹_› h).elim)|cbv))|((with_reducible first|apply Cb.mk|apply Lz.mk|apply JoinT.left|(apply AllT.mk;intro x hx));cbv)|((with_reducible refine Ob.mk (fun _ => ?_) ?_);rotate_left 1)|(with_reducible first|refine Mg.mk (Exists.intro ?_ (And.intro ?_ ?_))|rfl|apply Fin.mk|exact True.intro|apply And.intro)))
  all_goals first
   | (with_reducible show Goes _ _ _ _; skip)
   | (try ((try dsimp only [Shp.D, Shp.Ds, Shp.dflt] at *); simp only [vla, vem, veq, vln] at *; (try dsimp only [Shp.D, Shp.Ds, Shp.dflt, Shp.dflts] at *); first | done | omega | skip))
  all_goals first
   | (with_reducible show Goes _ _ _ _; skip)
   | (have hq : reqF (i1, r1, n1, x1, f1, d1, PUnit.unit) = true := by assumption
      have e := need_t x1
      rw [← hq] at e
      first
       | (have a1 : z1 22 < ((needT (reqF (i1, r1, n1, x1, f1, d1, PUnit.unit)) x1).length : Int) := by rw [← e]; assumption
          have a2 : cntI (tyP l) ((needT (reqF (i1, r1, n1, x1, f1, d1, PUnit.unit)) x1).getD (z1 22).toNat 0) l.length = 0 := by rw [← e]; assumption
          first
           | exact com_3 hx h p1 a1 a2
           | exact com_4 h p1 a1 a2)
       | exact com_2 (show ¬ z1 22 < ((needT (reqF (i1, r1, n1, x1, f1, d1, PUnit.unit)) x1).length : Int) from by rw [← e]; exact h) p3
       | (rw [← e] at p2 hnt; omega))
   | (have hq : reqF (i1, r1, n1, x1, f1, d1, PUnit.unit) = false := by assumption
      have e := need_f x1
      rw [← hq] at e
      first
       | (have a1 : z1 22 < ((needT (reqF (i1, r1, n1, x1, f1, d1, PUnit.unit)) x1).length : Int) := by rw [← e]; assumption
          have a2 : cntI (tyP l) ((needT (reqF (i1, r1, n1, x1, f1, d1, PUnit.unit)) x1).getD (z1 22).toNat 0) l.length = 0 := by rw [← e]; assumption
          first
           | exact com_3 hx h p1 a1 a2
           | exact com_4 h p1 a1 a2)
       | exact com_2 (show ¬ z1 22 < ((needT (reqF (i1, r1, n1, x1, f1, d1, PUnit.unit)) x1).length : Int) from by rw [← e]; exact h) p3
       | (rw [← e] at p2 hnt; omega))
   | skip
  all_goals
   (((with_reducible refine hR1 _ ?_ (fun zq bq tq yq hUq => ?_)); (focus (exact EndOk.au)); (have q22 := hUq.z 22); (cbv at q22); (replace q22 := q22.eq); (simp only [atI, atB, atT, atY, convL_self, vem, veq, ne_eq, cmpI, arI, dvI, shI, SV.den] at q22); (clear hUq hR1); (try dsimp only [Shp.D, Shp.Ds, Shp.dflt] at *); (try simp only [vem, veq, ne_eq, cmpI, arI, dvI, shI, SV.den, elemAt, convL_self] at *); (try dsimp only [Shp.D, Shp.Ds, Shp.dflt, Shp.dflts] at *))); (try ((try dsimp only [Shp.D, Shp.Ds, Shp.dflt] at *); simp only [vla, vem, veq, vln] at *; (try dsimp only [Shp.D, Shp.Ds, Shp.dflt, Shp.dflts] at *)))
   first
    | (have hq : reqF (i1, r1, n1, x1, f1, d1, PUnit.unit) = true := by assumption
       have e := need_t x1
       rw [← hq] at e
       have a1 : z1 22 < ((needT (reqF (i1, r1, n1, x1, f1, d1, PUnit.unit)) x1).length : Int) := by rw [← e]; assumption
       have a2 : ¬ cntI (tyP l) ((needT (reqF (i1, r1, n1, x1, f1, d1, PUnit.unit)) x1).getD (z1 22).toNat 0) l.length = 0 := by rw [← e]; exact h
       refine ⟨⟨by omega, by omega, fun i hi => ?_⟩, by omega⟩
       rcases (by omega : (i : Int) < z1 22 ∨ i = (z1 22).toNat) with k | k
       ·exact p3 i k
       ·subst k
        exact a2)
    | (have hq : reqF (i1, r1, n1, x1, f1, d1, PUnit.unit) = false := by assumption
       have e := need_f x1
       rw [← hq] at e
       have a1 : z1 22 < ((needT (reqF (i1, r1, n1, x1, f1, d1, PUnit.unit)) x1).length : Int) := by rw [← e]; assumption
       have a2 : ¬ cntI (tyP l) ((needT (reqF (i1, r1, n1, x1, f1, d1, PUnit.unit)) x1).getD (z1 22).toNat 0) l.length = 0 := by rw [← e]; exact h
       refine ⟨⟨by omega, by omega, fun i hi => ?_⟩, by omega⟩
       rcases (by omega : (i : Int) < z1 22 ∨ i = (z1 22).toNat) with k | k
       ·exact p3 i k
       ·subst k
        exact a2)
end
section
set_option maxHeartbeats 8000000
set_option maxRecDepth 100000
abbrev seaFn : Spec := fnFn [.int .i64] [.bool] (fun _ => True) fun (x : Shp.Ds [.int .i64]) => (sealT x.1, ())
theorem sea_fn : hasFn Tryz.prog 31 := ⟨_, Tryz.func31, by rfl, by rfl⟩
theorem sea_sp {E : Env} (hE : E.ok) : SpecOk Tryz.prog E 31 seaFn := by
 refine fnFn_of (post := fun (x : Shp.Ds [.int .i64]) (y : Shp.Ds [.bool]) => y.1 = sealT x.1) (spec_of_vc (C := noC) sea_fn Tryz.func31 (by kernel_rfl) noC_cx (fun x hl hx => ?_) hE) fun (x : Shp.Ds [.int .i64]) (y : Shp.Ds [.bool]) h => by rw [← h]
 obtain ⟨k, ⟨⟩⟩ := x
 cbv
 (repeat' (first|((with_reducible apply And.intro <;> intro h) <;> (first|(with_reducible first|exact (tf h ‹_›).elim|exact (tf ‹_› h).elim)|cbv))|((with_reducible first|apply Cb.mk|apply Lz.mk|apply JoinT.left|(apply AllT.mk;intro x hx));cbv)|((with_reducible refine Ob.mk (fun _ => ?_) ?_);rotate_left 1)|(with_reducible first|refine Mg.mk (Exists.intro ?_ (And.intro ?_ ?_))|rfl|apply Fin.mk|exact True.intro|apply And.intro)))
 all_goals first|(with_reducible first|show (∃ _, unr _ _ _ _ _ _)|show UnrI _ _ _ _ _|show Goes _ _ _ _|show JoinT _ _ _ _ _ _ _)|((try ((try dsimp only [Shp.D, Shp.Ds, Shp.dflt] at *); simp only [vla, vem, veq, vln] at *; (try dsimp only [Shp.D, Shp.Ds, Shp.dflt, Shp.dflts] at *); first | done | omega | (unfold sealT; simp_all; done) | skip)))
theorem chk_a {q : Bool} {x : Int} {t w : Nat → Int} {n : Nat} {b3 b4 : Bool} (p3 : b3 = hidI t n) (p4 : b4 = faiI t w n) (p5 : twI t n n = false) : chkI q x t w n = (if (b3 && decide (1 < n)) = true then 7 else if (b3 || b4) = true then 0 else if (!comI q x t w n || !(cntI t 44 n == cntI t 45 n)) = true then 8 else 0) := by
 unfold chkI
 rw [p5, ← p3, ← p4]
 simp
theorem chk_9 {q : Bool} {x : Int} {t w : Nat → Int} {n i : Nat} (hi : i < n) (a : ¬ t i = 41) (b : ¬ t i = 43) (c : ¬ t i = 37) (d : ¬ t i = 42) (h : cntI t (t i) n > 1) : 9 = chkI q x t w n := by
 unfold chkI
 rw [if_pos]
 unfold twI
 rw [anyI_iff]
 refine ⟨i, hi, ?_⟩
 simp [freeT, a, b, c, d]
 omega
def ckmC_t : SpecT := nd0 40 (lf0 31 (seaFn)) (nd0 41 (lf0 40 (cntFn)) (lf0 41 (comSp)))
def ckmC : Cx := ⟨tt, qt, bt, st, ckmC_t, 0, 1000000000000000, fun _ => none, false, CxE.no, []⟩
theorem ckmC_si {E : Env} (h : E.ok) : SpecsOk Tryz.prog E (CxE.no) ckmC_t (fun _ => none) := ⟨(nd0_ok (lf0_ok (.inl (sea_sp h))) (nd0_ok (lf0_ok (.inl (cnt_sp h))) (lf0_ok (.inl (com_sp h))))), noI_ok _ _ _⟩
theorem ckmC_x {E : Env} (h : E.ok) : CxEOk Tryz.prog E (CxE.no) := CxE.no_ok _ _
theorem ckmC_cx (E : Env) (h : E.ok) (h1 : E.lo = 0) (h2 : E.hi = 1000000000000000) : Cx.ok ckmC Tryz.prog E := ⟨tt_ok, qt_ok, bt_ok, ckmC_si h, h, h1, h2, mixed_ok, ckmC_x h⟩
theorem ckm_fn : hasFn Tryz.prog 20 := ⟨_, Tryz.func20, by rfl, by rfl⟩
abbrev ckmSp : Spec := fnSpec [msgE] [.int .i64] [] (fun (x : Shp.Ds [msgE]) => FewP x.1.2.1.length) fun (x : Shp.Ds [msgE]) (y : Shp.Ds [.int .i64]) => y.1 = chkI (reqF x.1.1) x.1.1.2.2.2.1 (tyP x.1.2.1) (noP x.1.2.1) x.1.2.1.length
theorem ckm_sp {E : Env} (hE : E.ok) : SpecOk Tryz.prog E 20 ckmSp := by
 refine spec_of_vc (C := ckmC) ckm_fn Tryz.func20 (by kernel_rfl) ckmC_cx (fun x hl hx => ?_) hE
 obtain ⟨⟨⟨i1, r1, n1, x1, f1, d1, ⟨⟩⟩, l, ⟨⟩⟩, ⟨⟩⟩ := x
 have hlen : l.length ≤ 1000000 := hx.h
 cbv
 (repeat' (first|((with_reducible apply And.intro <;> intro h) <;> (first|(with_reducible first|exact (tf h ‹_›).elim|exact (tf ‹_› h).elim)|cbv)) | ((with_reducible show JoinT (fun s K => vc _ (Code.region _ _ true) s K) _ _ _ _ _ _); (with_reducible apply JoinT.mg2); (focus (cbv; (repeat' (first|((with_reducible apply And.intro <;> intro h) <;> (first|(with_reducible first|exact (tf h ‹_›).elim|exact (tf ‹_› h).elim)|cbv))|((with_reducible first|apply Cb.mk|apply Lz.mk|apply JoinT.left|(apply AllT.mk;intro x hx));cbv)|((with_reducible refine Ob.mk (fun _ => ?_) ?_);rotate_left 1)|(with_reducible first|refine Mg.mk (Exists.intro ?_ (And.intro ?_ ?_))|rfl|apply Fin.mk|exact True.intro|apply And.intro))); (all_goals (try (have du : Unit := (); have dv : Unit := (); first | exact Goes.self (Ex2.mk ⟨dv, du, trivial, trivial, rfl⟩) | exact Goes.self (Ex2.mk ⟨x, du, hx, trivial, rfl⟩) | (rename_i xa hxa; exact Goes.self (Ex2.mk ⟨xa, x, hxa, hx, rfl⟩))))); (all_goals (fail_if_success (with_reducible first | show Goes _ _ _ _ | show (∃ _, unr _ _ _ _ _ _)))))))|((with_reducible first|apply Cb.mk|apply Lz.mk|apply JoinT.left|(apply AllT.mk;intro x hx));cbv)|((with_reducible refine Ob.mk (fun _ => ?_) ?_);rotate_left 1)|(with_reducible first|refine Mg.mk (Exists.intro ?_ (And.intro ?_ ?_))|rfl|apply Fin.mk|exact True.intro|apply And.intro)))
 all_goals first|(with_reducible first|show (∃ _, unr _ _ _ _ _ _)|show UnrI _ _ _ _ _|show Goes _ _ _ _|show JoinT _ _ _ _ _ _ _)|((try ((try dsimp only [Shp.D, Shp.Ds, Shp.dflt] at *); simp only [vla, vem, veq, vln] at *; (try dsimp only [Shp.D, Shp.Ds, Shp.dflt, Shp.dflts] at *); first | done | omega | skip)))
 with_reducible refine loop_hv [] (6 :: rangeN 11 30) [] [] (fun z b t y => 0 ≤ z 10 ∧ z 10 ≤ (l.length : Int) ∧ b 3 = hidI (tyP l) (z 10).toNat ∧ b 4 = faiI (tyP l) (noP l) (z 10).toNat ∧ twI (tyP l) l.length (z 10).toNat = false) (fun z b t y => ((l.length : Int) - z 10).toNat) (by cbv) (by cbv) ?_ ?_ (fun z1 b1 t1 u1 y1 R1 hP1 hR1 => ?_)
 ·exact EndOk.au
 ·intro zq bq tq yq hUq
  have q10 := hUq.z 10
  have qb3 := hUq.b 3
  have qb4 := hUq.b 4
  cbv at q10 qb3 qb4
  replace q10 := q10.eq
  replace qb3 := qb3.eq
  replace qb4 := qb4.eq
  simp only [atI, atB, atT, atY, convL_self, vem, veq, ne_eq, cmpI, arI, dvI, shI, SV.den] at q10 qb3 qb4
  clear hUq
  try dsimp only [Shp.D, Shp.Ds, Shp.dflt] at *
  try simp only [vla, vem, veq] at *
  rw [← q10, ← qb3, ← qb4]
  exact ⟨by omega, by omega, rfl, rfl, rfl⟩
 obtain ⟨p1, p2, p3, p4, p5⟩ := hP1
 cbv
 (repeat' (first|((with_reducible apply And.intro <;> intro h) <;> (first|(with_reducible first|exact (tf h ‹_›).elim|exact (tf ‹_› h).elim)|cbv)) | ((with_reducible show JoinT (fun s K => vc _ (Code.region _ _ true) s K) _ _ _ _ _ _); (with_reducible apply JoinT.mg2); (focus (cbv; (repeat' (first|((with_reducible apply And.intro <;> intro h) <;> (first|(with_reducible first|exact (tf h ‹_›).elim|exact (tf ‹_› h).elim)|cbv))|((with_reducible first|apply Cb.mk|apply Lz.mk|apply JoinT.left|(apply AllT.mk;intro x hx));cbv)|((with_reducible refine Ob.mk (fun _ => ?_) ?_);rotate_left 1)|(with_reducible first|refine Mg.mk (Exists.intro ?_ (And.intro ?_ ?_))|rfl|apply Fin.mk|exact True.intro|apply And.intro))); (all_goals (try (have du : Unit := (); have dv : Unit := (); first | exact Goes.self (Ex2.mk ⟨dv, du, trivial, trivial, rfl⟩) | exact Goes.self (Ex2.mk ⟨x, du, hx, trivial, rfl⟩) | (rename_i xa hxa; exact Goes.self (Ex2.mk ⟨xa, x, hxa, hx, rfl⟩))))); (all_goals (fail_if_success (with_reducible first | show Goes _ _ _ _ | show (∃ _, unr _ _ _ _ _ _)))))))|((with_reducible first|apply Cb.mk|apply Lz.mk|apply JoinT.left|(apply AllT.mk;intro x hx));cbv)|((with_reducible refine Ob.mk (fun _ => ?_) ?_);rotate_left 1)|(with_reducible first|refine Mg.mk (Exists.intro ?_ (And.intro ?_ ?_))|rfl|apply Fin.mk|exact True.intro|apply And.intro)))
 all_goals first
  | (with_reducible show Goes _ _ _ _; skip)
  | ((try dsimp only [Shp.D, Shp.Ds, Shp.dflt] at *); simp only [vla, vem, veq, vln] at *; (try dsimp only [Shp.D, Shp.Ds, Shp.dflt, Shp.dflts] at *); first | done | omega | (exact chk_9 (t := tyP l) (i := (z1 10).toNat) (by omega) (by assumption) (by assumption) (by assumption) (by assumption) h))
  | (((try dsimp only [Shp.D, Shp.Ds, Shp.dflt] at *); simp only [vla, vem, veq, vln] at *; (try dsimp only [Shp.D, Shp.Ds, Shp.dflt, Shp.dflts] at *))
     have e : (z1 10).toNat = l.length := by omega
     rw [e] at p3 p4 p5
     rw [chk_a p3 p4 p5]
     clear p3 p4 p5 hl
     simp_all
     (try omega))
  | (try ((try dsimp only [Shp.D, Shp.Ds, Shp.dflt] at *); simp only [vla, vem, veq, vln] at *; (try dsimp only [Shp.D, Shp.Ds, Shp.dflt, Shp.dflts] at *)))
 all_goals
  (((with_reducible refine hR1 _ ?_ (fun zq bq tq yq hUq => ?_)); (focus (exact EndOk.au)); (have q10 := hUq.z 10); (have qb3 := hUq.b 3); (have qb4 := hUq.b 4); (cbv at q10 qb3 qb4); (replace q10 := q10.eq); (replace qb3 := qb3.eq); (replace qb4 := qb4.eq); (simp only [atI, atB, atT, atY, convL_self, vem, veq, ne_eq, cmpI, arI, dvI, shI, SV.den] at q10 qb3 qb4); (clear hUq hR1); (try dsimp only [Shp.D, Shp.Ds, Shp.dflt] at *); (try simp only [vem, veq, ne_eq, cmpI, arI, dvI, shI, SV.den, elemAt, convL_self] at *); (try dsimp only [Shp.D, Shp.Ds, Shp.dflt, Shp.dflts] at *))); (try ((try dsimp only [Shp.D, Shp.Ds, Shp.dflt] at *); simp only [vla, vem, veq, vln] at *; (try dsimp only [Shp.D, Shp.Ds, Shp.dflt, Shp.dflts] at *)))
  have hT : ∀ i : Nat, (l.getD i pl0).1 = tyP l i := fun _ => rfl
  have hN : ∀ i : Nat, (l.getD i pl0).2.2.2.2.2.1.2.2.1 = noP l i := fun _ => rfl
  simp only [hT, hN] at *
  rw [show (zq 10).toNat = (z1 10).toNat + 1 by omega]
  refine ⟨⟨by omega, by omega, ?_, ?_, ?_⟩, by omega⟩
  ·rw [← qb3]
   simp_all [hidI, anyI, sealT]
  ·rw [← qb4]
   simp_all [faiI, anyI]
  ·simp_all [twI, anyI, freeT]
end
section
set_option maxHeartbeats 8000000
set_option maxRecDepth 100000
def putC_t : SpecT := fun _ => none
def putC : Cx := ⟨tt, qt, bt, st, putC_t, 0, 1000000000000000, fun _ => none, false, CxE.no, []⟩
theorem putC_si {E : Env} (h : E.ok) : SpecsOk Tryz.prog E (CxE.no) putC_t (fun _ => none) := ⟨(fun t f h => by cases h), noI_ok _ _ _⟩
theorem putC_x {E : Env} (h : E.ok) : CxEOk Tryz.prog E (CxE.no) := CxE.no_ok _ _
theorem putC_cx (E : Env) (h : E.ok) (h1 : E.lo = 0) (h2 : E.hi = 1000000000000000) : Cx.ok putC Tryz.prog E := ⟨tt_ok, qt_ok, bt_ok, putC_si h, h, h1, h2, mixed_ok, putC_x h⟩
def putB (v : Int) : Nat → List UInt8
 | 0 => []
 | n + 1 => toB (IntKind.u8.wrap (v.fdiv (2 ^ (8 * n)))) :: putB v n
theorem putB_length (v : Int) : ∀ n, (putB v n).length = n
 | 0 => rfl
 | n + 1 => by rw [putB, List.length_cons, putB_length v n]
theorem put_exp (k : Nat) (h : k ≤ 7) : min ((8 * (k : Int) + 9223372036854775808) % 18446744073709551616 - 9223372036854775808).toNat IntKind.u64.bits = 8 * k := by
 show min _ 64 = _
 omega
def putF (v w : Int) : List UInt8 := if 1 ≤ w ∧ w ≤ 8 then putB v w.toNat else []
abbrev putAs : List Shp := [.sl .byte, .int .u64, .int .i64]
abbrev putPre : Shp.Ds putAs → Prop := fun x => x.1.length ≤ 1000000000
abbrev putPost : Shp.Ds putAs → Shp.Ds [.sl .byte] → Prop := fun x y => y.1 = x.1 ++ putF x.2.1 x.2.2.1 ∧ y.1.length ≤ x.1.length + 8
theorem wput_fn : hasFn Tryz.prog 66 := ⟨_, Tryz.func66, by rfl, by rfl⟩
theorem wput_sp {E : Env} (hE : E.ok) : SpecOk Tryz.prog E 66 (fnSpecT putAs [some 5, none, none] [.sl .byte] [.own 5] [] putPre putPost) := by
 refine spec_of_vcT (C := putC) wput_fn Tryz.func66 (by kernel_rfl) putC_cx (fun x hl hx => ?_) hE
 obtain ⟨l, v, w, u⟩ := x
 have h1 := hx
 dsimp only [Shp.D, Shp.Ds] at h1
 cbv
 (repeat' (first|((with_reducible apply And.intro <;> intro h) <;> (first|(with_reducible first|exact (tf h ‹_›).elim|exact (tf ‹_› h).elim)|cbv))|((with_reducible first|apply Cb.mk|apply Lz.mk|apply JoinT.left|(apply AllT.mk;intro x hx));cbv)|((with_reducible refine Ob.mk (fun _ => ?_) ?_);rotate_left 1)|(with_reducible first|refine Mg.mk (Exists.intro ?_ (And.intro ?_ ?_))|rfl|apply Fin.mk|exact True.intro|apply And.intro)))
 all_goals first
  | ((try dsimp only [Shp.D, Shp.Ds, Shp.dflt] at *); simp only [vla, vem, veq, vln] at *; (try dsimp only [Shp.D, Shp.Ds, Shp.dflt, Shp.dflts] at *); first | omega | (rw [putF, if_neg (by omega), List.append_nil]; done))
  | skip
 with_reducible refine loop_hv [] (rangeN 17 12) [] [0] (fun z b t y => -1 ≤ z 7 ∧ z 7 ≤ w - 1 ∧ y 0 .byte ++ putB v (z 7 + 1).toNat = l ++ putB v w.toNat) (fun z b t y => (z 7 + 1).toNat) (by cbv) (by cbv) ?_ ?_ (fun z1 b1 t1 u1 y1 R1 hP1 hR1 => ?_)
 ·exact EndOk.au
 ·intro zq bq tq yq hUq
  have q7 := hUq.z 7
  have qy0 := hUq.y 0 (.byte)
  cbv at q7 qy0
  replace q7 := q7.eq
  replace qy0 := qy0.eq
  simp only [atI, atB, atT, atY, convL_self, vem, veq, ne_eq, cmpI, arI, dvI, shI, SV.den] at q7 qy0
  clear hUq
  try dsimp only [Shp.D, Shp.Ds, Shp.dflt] at *
  try simp only [vla, vem, veq] at *
  rw [← qy0]
  refine ⟨by omega, by omega, ?_⟩
  rw [show (zq 7 + 1).toNat = w.toNat by omega]
 obtain ⟨p1, p2, p3⟩ := hP1
 cbv
 (repeat' (first|((with_reducible apply And.intro <;> intro h) <;> (first|(with_reducible first|exact (tf h ‹_›).elim|exact (tf ‹_› h).elim)|cbv))|((with_reducible first|apply Cb.mk|apply Lz.mk|apply JoinT.left|(apply AllT.mk;intro x hx));cbv)|((with_reducible refine Ob.mk (fun _ => ?_) ?_);rotate_left 1)|(with_reducible first|refine Mg.mk (Exists.intro ?_ (And.intro ?_ ?_))|rfl|apply Fin.mk|exact True.intro|apply And.intro)))
 all_goals first | (with_reducible show Goes _ _ _ _; skip) | (clear hR1)
 ·with_reducible refine hR1 _ ?_ (fun zq bq tq yq hUq => ?_)
  ·exact EndOk.au
  have q7 := hUq.z 7
  have qy0 := hUq.y 0 (.byte)
  cbv at q7 qy0
  replace q7 := q7.eq
  replace qy0 := qy0.eq
  simp only [atI, atB, atT, atY, convL_self, vem, veq, ne_eq, cmpI, arI, dvI, shI, SV.den] at q7 qy0
  clear hUq hR1
  try dsimp only [Shp.D, Shp.Ds, Shp.dflt] at *
  try simp only [vem, veq, ne_eq, cmpI, arI, dvI, shI, SV.den, elemAt, convL_self] at *
  try dsimp only [Shp.D, Shp.Ds, Shp.dflt, Shp.dflts] at *
  obtain ⟨k, hk⟩ := Int.eq_ofNat_of_zero_le (show 0 ≤ z1 7 by omega)
  rw [hk] at qy0 q7 p3 p2
  rw [put_exp k (by omega)] at qy0
  refine ⟨⟨by omega, by omega, ?_⟩, by omega⟩
  rw [← qy0, show (zq 7 + 1).toNat = k by omega, ← p3, show ((k : Int) + 1).toNat = k + 1 by omega, putB, List.append_assoc]
  rfl
 all_goals (try dsimp only [Shp.D, Shp.Ds, Shp.dflt] at *); simp only [vla, vem, veq, vln] at *; (try dsimp only [Shp.D, Shp.Ds, Shp.dflt, Shp.dflts] at *)
 all_goals first
  | (have e := congrArg List.length p3; simp only [List.length_append, putB_length] at e; omega)
  | (rw [show (z1 7 + 1).toNat = 0 by omega, putB, List.append_nil] at p3; rw [putF, if_pos (by omega)]; exact p3)
end
section
set_option maxHeartbeats 8000000
set_option maxRecDepth 100000
abbrev validSp : Spec := fnSpec [adrE] [.bool] [] (fun _ => True) fun x y => y.1 = valid (toAdr x.1)
abbrev lessSp : Spec := fnSpec [adrE, adrE] [.bool] [] (fun _ => True) fun x y => y.1 = less (toAdr x.1) (toAdr x.2.1)
theorem svalid_fn : hasFn Tryz.prog 149 := ⟨_, Tryz.func149, by rfl, by rfl⟩
theorem svalid_sp {E : Env} (hE : E.ok) : SpecOk Tryz.prog E 149 validSp := by
 refine spec_of_vc (C := noC) svalid_fn Tryz.func149 (by kernel_rfl) noC_cx (fun x hl hx => ?_) hE
 obtain ⟨⟨f, h, l, u⟩, u'⟩ := x
 cbv
 (repeat' (first|((with_reducible apply And.intro <;> intro h) <;> (first|(with_reducible first|exact (tf h ‹_›).elim|exact (tf ‹_› h).elim)|cbv))|((with_reducible first|apply Cb.mk|apply Lz.mk|apply JoinT.left|(apply AllT.mk;intro x hx));cbv)|((with_reducible refine Ob.mk (fun _ => ?_) ?_);rotate_left 1)|(with_reducible first|refine Mg.mk (Exists.intro ?_ (And.intro ?_ ?_))|rfl|apply Fin.mk|exact True.intro|apply And.intro)))
 all_goals ((try dsimp only [Shp.D, Shp.Ds, Shp.dflt] at *); simp only [vla, vem, veq, vln] at *; (try dsimp only [Shp.D, Shp.Ds, Shp.dflt, Shp.dflts] at *); simp [valid, toAdr, *])
 all_goals first | rfl | (by_cases h6 : f = 6 <;> simp [*]) | skip
theorem pless_fn : hasFn Tryz.prog 152 := ⟨_, Tryz.func152, by rfl, by rfl⟩
theorem pless_sp {E : Env} (hE : E.ok) : SpecOk Tryz.prog E 152 (fnSpec [.st [adrE], .st [adrE]] [.bool] [] (fun _ => True) fun x y => y.1 = less (toAdr x.1.1) (toAdr x.2.1.1)) := by
 refine spec_of_vc (C := noC) pless_fn Tryz.func152 (by kernel_rfl) noC_cx (fun x hl hx => ?_) hE
 obtain ⟨⟨⟨f, h, l, u⟩, u1⟩, ⟨⟨f', h', l', u'⟩, u2⟩, u''⟩ := x
 cbv
 (repeat' (first|((with_reducible apply And.intro <;> intro h) <;> (first|(with_reducible first|exact (tf h ‹_›).elim|exact (tf ‹_› h).elim)|cbv))|((with_reducible first|apply Cb.mk|apply Lz.mk|apply JoinT.left|(apply AllT.mk;intro x hx));cbv)|((with_reducible refine Ob.mk (fun _ => ?_) ?_);rotate_left 1)|(with_reducible first|refine Mg.mk (Exists.intro ?_ (And.intro ?_ ?_))|rfl|apply Fin.mk|exact True.intro|apply And.intro)))
 all_goals ((try dsimp only [Shp.D, Shp.Ds, Shp.dflt] at *); simp only [vla, vem, veq, vln] at *; (try dsimp only [Shp.D, Shp.Ds, Shp.dflt, Shp.dflts] at *); simp [less, toAdr, *])
 all_goals exact decide_eq_decide.2 Iff.rfl
def lsC_t : SpecT := lf0 152 (fnSpec [.st [adrE], .st [adrE]] [.bool] [] (fun _ => True) (fun x y => y.1 = less (toAdr x.1.1) (toAdr x.2.1.1)))
def lsC : Cx := ⟨tt, qt, bt, st, lsC_t, 0, 1000000000000000, fun _ => none, false, CxE.no, []⟩
theorem lsC_si {E : Env} (h : E.ok) : SpecsOk Tryz.prog E (CxE.no) lsC_t (fun _ => none) := ⟨(lf0_ok (.inl (pless_sp h))), noI_ok _ _ _⟩
theorem lsC_x {E : Env} (h : E.ok) : CxEOk Tryz.prog E (CxE.no) := CxE.no_ok _ _
theorem lsC_cx (E : Env) (h : E.ok) (h1 : E.lo = 0) (h2 : E.hi = 1000000000000000) : Cx.ok lsC Tryz.prog E := ⟨tt_ok, qt_ok, bt_ok, lsC_si h, h, h1, h2, mixed_ok, lsC_x h⟩
theorem sless_fn : hasFn Tryz.prog 150 := ⟨_, Tryz.func150, by rfl, by rfl⟩
theorem sless_sp {E : Env} (hE : E.ok) : SpecOk Tryz.prog E 150 lessSp := by
 refine spec_of_vc (C := lsC) sless_fn Tryz.func150 (by kernel_rfl) lsC_cx (fun x hl hx => ?_) hE
 obtain ⟨⟨f, h, l, u⟩, ⟨f', h', l', u'⟩, u''⟩ := x
 cbv
 (repeat' (first|((with_reducible apply And.intro <;> intro h) <;> (first|(with_reducible first|exact (tf h ‹_›).elim|exact (tf ‹_› h).elim)|cbv))|((with_reducible first|apply Cb.mk|apply Lz.mk|apply JoinT.left|(apply AllT.mk;intro x hx));cbv)|((with_reducible refine Ob.mk (fun _ => ?_) ?_);rotate_left 1)|(with_reducible first|refine Mg.mk (Exists.intro ?_ (And.intro ?_ ?_))|rfl|apply Fin.mk|exact True.intro|apply And.intro)))
 all_goals (try dsimp only [Shp.D, Shp.Ds, Shp.dflt] at *); simp only [vla, vem, veq, vln] at *; (try dsimp only [Shp.D, Shp.Ds, Shp.dflt, Shp.dflts] at *)
 all_goals exact hx.1
theorem sopq_fn : hasFn Tryz.prog 151 := ⟨_, Tryz.func151, by rfl, by rfl⟩
theorem sopq_sp {E : Env} (hE : E.ok) : SpecOk Tryz.prog E 151 (fnSpec [selE] [.bool] [] (fun _ => True) fun x y => y.1 = opq (toSel x.1)) := by
 refine spec_of_vc (C := noC) sopq_fn Tryz.func151 (by kernel_rfl) noC_cx (fun x hl hx => ?_) hE
 obtain ⟨⟨p, a, b, ⟨f, h, l, u⟩, ⟨f', h', l', u'⟩, u1⟩, u''⟩ := x
 cbv
 (repeat' (first|((with_reducible apply And.intro <;> intro h) <;> (first|(with_reducible first|exact (tf h ‹_›).elim|exact (tf ‹_› h).elim)|cbv))|((with_reducible first|apply Cb.mk|apply Lz.mk|apply JoinT.left|(apply AllT.mk;intro x hx));cbv)|((with_reducible refine Ob.mk (fun _ => ?_) ?_);rotate_left 1)|(with_reducible first|refine Mg.mk (Exists.intro ?_ (And.intro ?_ ?_))|rfl|apply Fin.mk|exact True.intro|apply And.intro)))
 all_goals ((try dsimp only [Shp.D, Shp.Ds, Shp.dflt] at *); simp only [vla, vem, veq, vln] at *; (try dsimp only [Shp.D, Shp.Ds, Shp.dflt, Shp.dflts] at *); simp [opq, toSel, *])
abbrev chkSp : Spec := fnSpec [selE] [.int .i64] [] (fun _ => True) fun x y => y.1 = chkSel (toSel x.1)
def sckC_t : SpecT := nd0 150 (lf0 149 (validSp)) (nd0 151 (lf0 150 (lessSp)) (lf0 151 (fnSpec [selE] [.bool] [] (fun _ => True) (fun x y => y.1 = opq (toSel x.1)))))
def sckC : Cx := ⟨tt, qt, bt, st, sckC_t, 0, 1000000000000000, fun _ => none, false, CxE.no, []⟩
theorem sckC_si {E : Env} (h : E.ok) : SpecsOk Tryz.prog E (CxE.no) sckC_t (fun _ => none) := ⟨(nd0_ok (lf0_ok (.inl (svalid_sp h))) (nd0_ok (lf0_ok (.inl (sless_sp h))) (lf0_ok (.inl (sopq_sp h))))), noI_ok _ _ _⟩
theorem sckC_x {E : Env} (h : E.ok) : CxEOk Tryz.prog E (CxE.no) := CxE.no_ok _ _
theorem sckC_cx (E : Env) (h : E.ok) (h1 : E.lo = 0) (h2 : E.hi = 1000000000000000) : Cx.ok sckC Tryz.prog E := ⟨tt_ok, qt_ok, bt_ok, sckC_si h, h, h1, h2, mixed_ok, sckC_x h⟩
theorem schk_fn : hasFn Tryz.prog 140 := ⟨_, Tryz.func140, by rfl, by rfl⟩
theorem schk_sp {E : Env} (hE : E.ok) : SpecOk Tryz.prog E 140 chkSp := by
 refine spec_of_vc (C := sckC) schk_fn Tryz.func140 (by kernel_rfl) sckC_cx (fun x hl hx => ?_) hE
 obtain ⟨⟨p, a, b, ⟨f, h, l, u⟩, ⟨f', h', l', u'⟩, u1⟩, u''⟩ := x
 cbv
 (repeat' (first|((with_reducible apply And.intro <;> intro h) <;> (first|(with_reducible first|exact (tf h ‹_›).elim|exact (tf ‹_› h).elim)|cbv))|((with_reducible first|apply Cb.mk|apply Lz.mk|apply JoinT.left|(apply AllT.mk;intro x hx));cbv)|((with_reducible refine Ob.mk (fun _ => ?_) ?_);rotate_left 1)|(with_reducible first|refine Mg.mk (Exists.intro ?_ (And.intro ?_ ?_))|rfl|apply Fin.mk|exact True.intro|apply And.intro)))
 all_goals ((try dsimp only [Shp.D, Shp.Ds, Shp.dflt] at *); simp only [vla, vem, veq, vln] at *; (try dsimp only [Shp.D, Shp.Ds, Shp.dflt, Shp.dflts] at *); simp_all [chkSel, toSel, toAdr, opq])
 all_goals trace_state
def chkAll : List SelT → Int
 | [] => 0
 | s :: l => if chkSel (toSel s) = 0 then chkAll l else chkSel (toSel s)
theorem chkAll_drop (l : List SelT) (k : Nat) (h : k < l.length) : chkAll (l.drop k) = if chkSel (toSel (l.getD k (0, 0, 0, (0, 0, 0, ()), (0, 0, 0, ()), ()))) = 0 then chkAll (l.drop (k + 1)) else chkSel (toSel (l.getD k (0, 0, 0, (0, 0, 0, ()), (0, 0, 0, ()), ()))) := by
 rw [List.drop_eq_getElem_cons h, chkAll, List.getD_eq_getElem?_getD, List.getElem?_eq_getElem h]
 rfl
def scaC_t : SpecT := lf0 140 (chkSp)
def scaC : Cx := ⟨tt, qt, bt, st, scaC_t, 0, 1000000000000000, fun _ => none, false, CxE.no, []⟩
theorem scaC_si {E : Env} (h : E.ok) : SpecsOk Tryz.prog E (CxE.no) scaC_t (fun _ => none) := ⟨(lf0_ok (.inl (schk_sp h))), noI_ok _ _ _⟩
theorem scaC_x {E : Env} (h : E.ok) : CxEOk Tryz.prog E (CxE.no) := CxE.no_ok _ _
theorem scaC_cx (E : Env) (h : E.ok) (h1 : E.lo = 0) (h2 : E.hi = 1000000000000000) : Cx.ok scaC Tryz.prog E := ⟨tt_ok, qt_ok, bt_ok, scaC_si h, h, h1, h2, mixed_ok, scaC_x h⟩
theorem sca_fn : hasFn Tryz.prog 126 := ⟨_, Tryz.func126, by rfl, by rfl⟩
theorem sca_sp {E : Env} (hE : E.ok) : SpecOk Tryz.prog E 126 (fnSpec [.sl selE] [.int .i64] [] (fun _ => True) fun x y => y.1 = chkAll x.1) := by
 refine spec_of_vc (C := scaC) sca_fn Tryz.func126 (by kernel_rfl) scaC_cx (fun x hl hx => ?_) hE
 obtain ⟨l, u⟩ := x
 have hlen : l.length ≤ 140737488355328 := by simp only [Shp.lims, Shp.lim] at hl; exact hl.1.1
 cbv
 (repeat' (first|((with_reducible apply And.intro <;> intro h) <;> (first|(with_reducible first|exact (tf h ‹_›).elim|exact (tf ‹_› h).elim)|cbv))|((with_reducible first|apply Cb.mk|apply Lz.mk|apply JoinT.left|(apply AllT.mk;intro x hx));cbv)|((with_reducible refine Ob.mk (fun _ => ?_) ?_);rotate_left 1)|(with_reducible first|refine Mg.mk (Exists.intro ?_ (And.intro ?_ ?_))|rfl|apply Fin.mk|exact True.intro|apply And.intro)))
 with_reducible refine loop_hv [] (4 :: 5 :: rangeN 9 9) [] [] (fun z b t y => 0 ≤ z 8 ∧ z 8 ≤ (l.length : Int) ∧ chkAll (l.drop (z 8).toNat) = chkAll l) (fun z b t y => ((l.length : Int) - z 8).toNat) (by cbv) (by cbv) ?_ ?_ (fun z1 b1 t1 u1 y1 R1 hP1 hR1 => ?_)
 ·exact EndOk.au
 ·intro zq bq tq yq hUq
  have q8 := hUq.z 8
  cbv at q8
  replace q8 := q8.eq
  simp only [atI, atB, atT, atY, convL_self, vem, veq, ne_eq, cmpI, arI, dvI, shI, SV.den] at q8
  clear hUq
  try dsimp only [Shp.D, Shp.Ds, Shp.dflt] at *
  try simp only [vla, vem, veq] at *
  rw [← q8]
  exact ⟨by omega, by omega, rfl⟩
 obtain ⟨p1, p2, p3⟩ := hP1
 cbv
 (repeat' (first|((with_reducible apply And.intro <;> intro h) <;> (first|(with_reducible first|exact (tf h ‹_›).elim|exact (tf ‹_› h).elim)|cbv))|((with_reducible first|apply Cb.mk|apply Lz.mk|apply JoinT.left|(apply AllT.mk;intro x hx));cbv)|((with_reducible refine Ob.mk (fun _ => ?_) ?_);rotate_left 1)|(with_reducible first|refine Mg.mk (Exists.intro ?_ (And.intro ?_ ?_))|rfl|apply Fin.mk|exact True.intro|apply And.intro)))
 all_goals first | (with_reducible show Goes _ _ _ _; skip) | (clear hR1)
 all_goals first
  | (with_reducible show Goes _ _ _ _; skip)
  | ((try dsimp only [Shp.D, Shp.Ds, Shp.dflt] at *); simp only [vla, vem, veq, vln] at *; (try dsimp only [Shp.D, Shp.Ds, Shp.dflt, Shp.dflts] at *); first | omega | skip)
 all_goals first
  | (with_reducible show Goes _ _ _ _; skip)
  | (have e := chkAll_drop l (z1 8).toNat (by omega); rw [p3] at e; have hx1 := hx.1; rw [e, if_neg]; exact hx1; (intro h0; exact ‹¬ _ = (0 : Int)› (hx1.trans h0)))
  | (rw [List.drop_eq_nil_of_le (by omega)] at p3; exact p3)
  | skip
 ·with_reducible refine hR1 _ ?_ (fun zq bq tq yq hUq => ?_)
  ·exact EndOk.au
  have q8 := hUq.z 8
  cbv at q8
  replace q8 := q8.eq
  simp only [atI, atB, atT, atY, convL_self, vem, veq, ne_eq, cmpI, arI, dvI, shI, SV.den] at q8
  clear hUq hR1
  try dsimp only [Shp.D, Shp.Ds, Shp.dflt] at *
  try simp only [vem, veq, ne_eq, cmpI, arI, dvI, shI, SV.den, elemAt, convL_self] at *
  try dsimp only [Shp.D, Shp.Ds, Shp.dflt, Shp.dflts] at *
  have e := chkAll_drop l (z1 8).toNat (by omega)
  have hx1 := hx.1
  rw [h] at hx1
  rw [p3, if_pos hx1.symm] at e
  refine ⟨⟨by omega, by omega, ?_⟩, by omega⟩
  rw [show (zq 8).toNat = (z1 8).toNat + 1 by omega]
  exact e.symm
end
end Go.Proofs.YtkifmppmfkpfbaaGreat.V
