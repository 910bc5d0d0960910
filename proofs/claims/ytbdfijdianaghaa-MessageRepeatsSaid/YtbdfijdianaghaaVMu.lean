/- The law MessageRepeats. -/
import Derived.Test.YtbdfijdianaghaaVMt
import Derived.Test.YtbdfijdianaghaaVMg
import Derived.Test.YtbdfijdianaghaaVL
set_option linter.unusedVariables false
set_option linter.unusedSimpArgs false
namespace Go.Proofs.Ytbdfijdianaghaa.V
open Go.RowKit
set_option maxHeartbeats 8000000
set_option maxRecDepth 100000
theorem getD_l {α : Type} {l : List α} {p d : α} {i : Nat} (hi : i < l.length) : (l ++ [p]).getD i d = l.getD i d := by
 rw [List.getD_eq_getElem?_getD, List.getD_eq_getElem?_getD, List.getElem?_append_left hi]
theorem getD_r {α : Type} {l : List α} {p d : α} : (l ++ [p]).getD l.length d = p := by
 rw [List.getD_eq_getElem?_getD, List.getElem?_append_right (Nat.le_refl _)]
 simp
theorem len_1 {α : Type} {l : List α} {p : α} : (l ++ [p]).length = l.length + 1 := by simp
structure RepG (q : Bool) (x : Int) (l : List PlT) (j : Nat) : Prop where
 g : MsgG l
 c : chkI q x (tyP l) (noP l) l.length = 0
 j : j < l.length
theorem RepG.hid {q : Bool} {x : Int} {l : List PlT} {j : Nat} (h : RepG q x l j) : hidI (tyP l) l.length = false := anyI_no.2 h.g.ns
theorem rep_a {q : Bool} {x : Int} {l : List PlT} {j : Nat} (h : RepG q x l j) (hf : freeT (l.getD j pl0).1 = true) : chkI q x (tyP (l ++ [l.getD j pl0])) (noP (l ++ [l.getD j pl0])) (l ++ [l.getD j pl0]).length = 0 := by
 rw [len_1]
 have e1 : tyP (l ++ [l.getD j pl0]) l.length = tyP l j := by unfold tyP; rw [getD_r]
 have e2 : noP (l ++ [l.getD j pl0]) l.length = noP l j := by unfold noP; rw [getD_r]
 exact rep_free (fun i hi => by unfold tyP; rw [getD_l hi]) (fun i hi => by unfold noP; rw [getD_l hi]) h.j e1 e2 h.hid (by rw [e1]; exact hf) h.c
theorem rep_b {q : Bool} {x : Int} {l : List PlT} {j : Nat} (h : RepG q x l j) (hf : freeT (l.getD j pl0).1 = false) : chkI q x (tyP (l ++ [l.getD j pl0])) (noP (l ++ [l.getD j pl0])) (l ++ [l.getD j pl0]).length = 9 := by
 rw [len_1]
 have e1 : tyP (l ++ [l.getD j pl0]) l.length = tyP l j := by unfold tyP; rw [getD_r]
 exact rep_twice (w := noP l) (fun i hi => by unfold tyP; rw [getD_l hi]) h.j e1 (by rw [e1]; exact hf)
theorem rep_c {q : Bool} {x : Int} {l : List PlT} {j : Nat} (h : RepG q x l j) {s : PlT} (hs : sealT s.1 = true) : chkI q x (tyP (l ++ [s])) (noP (l ++ [s])) (l ++ [s]).length = 7 := by
 rw [len_1]
 have e1 : tyP (l ++ [s]) l.length = s.1 := by unfold tyP; rw [getD_r]
 exact rep_seal (w := noP l) (fun i hi => by unfold tyP; rw [getD_l hi]) (by have := h.j; omega) h.hid (by rw [e1]; exact hs) h.c
theorem free_1 {k : Int} {b : Bool} (q : true = b) (h : k = 41 ∨ k = 43 ∨ k = 37 ∨ k = 42) : b = freeT k := by
 rw [← q]
 rcases h with h | h | h | h <;> · subst h; rfl
theorem free_2 {k : Int} {b : Bool} (q : (k == 42) = b) (h1 : ¬ k = 41) (h2 : ¬ k = 43) (h3 : ¬ k = 37) : b = freeT k := by
 rw [← q]
 simp [freeT, h1, h2, h3]
theorem free_3 {k : Int} {b : Bool} (q : decide (k = 42) = b) (h1 : ¬ k = 41) (h2 : ¬ k = 43) (h3 : ¬ k = 37) : b = freeT k := by
 rw [← q]
 by_cases h : k = 42 <;> simp [freeT, h1, h2, h3, h]
theorem q_of {l l2 : List PlT} {p t : PlT} (q : [] ++ l ++ [t] = l2) (ht : t = p) : l2 = l ++ [p] := by
 rw [← q, ht, List.nil_append]
theorem few_0 {l : List PlT} (g : MsgG l) : FewP l.length := ⟨by have := g.few; omega⟩
theorem few_1 {l l2 : List PlT} {p : PlT} (q : l2 = l ++ [p]) (g : MsgG l) : FewP l2.length := ⟨by have := g.few; rw [q, List.length_append, List.length_cons, List.length_nil]; omega⟩
theorem rep_G {q : Bool} {x e m : Int} {l : List PlT} {j : Nat} (g : MsgG l) (hc : e = chkI q x (tyP l) (noP l) l.length) (h0 : e = 0) (hv : 0 ≤ m ∧ m ≤ 255) (hj : j = (Int.tmod ((m + 9223372036854775808) % 18446744073709551616 - 9223372036854775808) (l.length : Int)).toNat) (hl : ¬ (l.length : Int) = 0) : RepG q x l j := by
 refine ⟨g, hc.symm.trans h0, ?_⟩
 rw [show (m + 9223372036854775808) % 18446744073709551616 - 9223372036854775808 = m by omega] at hj
 have h1 := Int.tmod_nonneg (l.length : Int) hv.1
 have h2 := Int.tmod_lt_of_pos m (show 0 < (l.length : Int) by omega)
 omega
theorem law_1 {l l2 : List PlT} {j : Nat} {q : Bool} {x e : Int} {b : Bool} {R : Prop} (G : RepG q x l j) (p1 : b = freeT (l.getD j pl0).1) (p2 : l2 = l ++ [l.getD j pl0]) (hx : e = chkI q x (tyP l2) (noP l2) l2.length ∧ R) : (b = true ∧ e = 0) ∨ (b = false ∧ e = 9) := by
 subst p2
 cases b with
 | true => exact .inl ⟨rfl, hx.1.trans (rep_a G p1.symm)⟩
 | false => exact .inr ⟨rfl, hx.1.trans (rep_b G p1.symm)⟩
theorem app_a {n : Nat} (h : n ≤ 100) : (0 + n + (0 + 1)) * 272 ≤ 140737488355328 ∧ 0 + n + (0 + 1) ≤ 140737488355328 := by omega
theorem app_b {n : Nat} (h : n ≤ 100) : (0 + n) * 272 ≤ 140737488355328 ∧ 0 + n ≤ 140737488355328 := by omega
theorem idx_ok {m : Int} {n : Nat} (hv : 0 ≤ m ∧ m ≤ 255) (hl : ¬ (n : Int) = 0) : 0 ≤ Int.tmod ((m + 9223372036854775808) % 18446744073709551616 - 9223372036854775808) (n : Int) ∧ Int.tmod ((m + 9223372036854775808) % 18446744073709551616 - 9223372036854775808) (n : Int) < n := by
 rw [show (m + 9223372036854775808) % 18446744073709551616 - 9223372036854775808 = m by omega]
 exact ⟨Int.tmod_nonneg _ hv.1, Int.tmod_lt_of_pos m (by omega)⟩
theorem last_ok {l l2 : List PlT} {p : PlT} (q : l2 = l ++ [p]) (g : l.length ≤ 100) : 0 ≤ ((l2.length : Int) - 1 + 9223372036854775808) % 18446744073709551616 - 9223372036854775808 ∧ ((l2.length : Int) - 1 + 9223372036854775808) % 18446744073709551616 - 9223372036854775808 < (l2.length : Int) := by
 have : l2.length = l.length + 1 := by rw [q]; simp
 omega
theorem set_last {l l2 : List PlT} {p d : PlT} {i : Int} {f : PlT → PlT} (q : l2 = l ++ [p]) (g : l.length ≤ 100) (hi : i = ((l2.length : Int) - 1 + 9223372036854775808) % 18446744073709551616 - 9223372036854775808) : setAt l2 i d f = l ++ [f p] := by
 have hl : l2.length = l.length + 1 := by rw [q]; simp
 have hn : i.toNat = l.length := by omega
 unfold setAt
 rw [hn, q, getD_r]
 simp [List.set_append]
theorem seal_sel {x : Int} (h : 0 ≤ x ∧ x < 2) : sealT (selI [46, 53] x) = true := by
 rcases (by omega : x = 0 ∨ x = 1) with h | h <;> subst h <;> rfl
theorem law_3 {q : Bool} {x e : Int} {l l3 : List PlT} {j : Nat} {s : PlT} {R : Prop} (G : RepG q x l j) (h3 : l3 = l ++ [s]) (hs : sealT s.1 = true) (hx : e = chkI q x (tyP l3) (noP l3) l3.length ∧ R) : e = 7 := by
 subst h3
 exact hx.1.trans (rep_c G hs)
theorem few_3 {l l3 : List PlT} {s : PlT} (h3 : l3 = l ++ [s]) (g : MsgG l) : FewP l3.length := few_1 h3 g
theorem law_4 {q : Bool} {x e m : Int} {l l2 : List PlT} {p d : PlT} {i : Int} {j : Nat} {f : PlT → PlT} {R Q : Prop} (hx : e = chkI q x (tyP (setAt l2 i d f)) (noP (setAt l2 i d f)) (setAt l2 i d f).length ∧ R) (G : RepG q x l j) (p2 : l2 = l ++ [p]) (g : l.length ≤ 100) (hi : i = ((l2.length : Int) - 1 + 9223372036854775808) % 18446744073709551616 - 9223372036854775808) (hf : (f p).1 = selI [46, 53] m) (hm : (0 ≤ m ∧ m < 2) ∧ Q) : e = 7 :=
 law_3 G (set_last p2 g hi) (by rw [hf]; exact seal_sel hm.1) hx
def repC_t : SpecT := nd0 7 (nd0 6 (lf0 5 (aw7Sp)) (lf0 6 (newSpec 63))) (nd0 8 (lf0 7 (dmsS)) (nd0 9 (lf0 8 (ckmSp)) (lf0 9 (nextS))))
def repC : Cx := ⟨tt, qt, bt, st, repC_t, 0, 1000000000000000, fun _ => none, false, CxE.no, []⟩
theorem repC_si {E : Env} (h : E.ok) : SpecsOk Try.prog E (CxE.no) repC_t (fun _ => none) := ⟨(nd0_ok (nd0_ok (lf0_ok (.inl (aw7_sp h))) (lf0_ok (.inl (new_sp h)))) (nd0_ok (lf0_ok (.inl (dms_sp h))) (nd0_ok (lf0_ok (.inl (ckm_sp h))) (lf0_ok (.inl (next_sp h)))))), noI_ok _ _ _⟩
theorem repC_x {E : Env} (h : E.ok) : CxEOk Try.prog E (CxE.no) := CxE.no_ok _ _
theorem repC_cx (E : Env) (h : E.ok) (h1 : E.lo = 0) (h2 : E.hi = 1000000000000000) : Cx.ok repC Try.prog E := ⟨tt_ok, qt_ok, bt_ok, repC_si h, h, h1, h2, mixed_ok, repC_x h⟩
theorem repC_from (lo hi : Nat) (E : Env) (h : E.ok) (h1 : E.lo = lo) (h2 : E.hi = hi) : Cx.ok (Cx.from repC lo hi) Try.prog E := ⟨tt_ok, qt_ok, bt_ok, repC_si h, h, h1, h2, mixed_ok, repC_x h⟩
abbrev repAs : List Shp := [.sl .byte, .int .u8]
theorem rep_vc (x : Shp.Ds repAs) (hi : inrs repAs x) : vcLaw repC Try.f3 repAs x := by
 obtain ⟨codes, at1, u⟩ := x
 have hv : 0 ≤ at1 ∧ at1 ≤ 255 := by
  have h : IntKind.u8.min ≤ at1 ∧ at1 ≤ IntKind.u8.max := hi.2.1
  rw [show IntKind.u8.min = 0 by decide, show IntKind.u8.max = 255 by decide] at h
  exact h
 clear hi
 cbv
 (repeat' (first | ((with_reducible apply And.intro <;> intro h) <;> (first | with_reducible exact (tf h (by assumption)).elim | with_reducible exact (tf (by assumption) h).elim | cbv)) | ((with_reducible first | refine Cb.mk ?_ | refine Lz.mk ?_ | (apply AllT.mk; intro x hx)); cbv) | ((with_reducible refine Ob.mk (fun _ => ?_) ?_); rotate_left 1) | (with_reducible first | refine Mg.mk (Exists.intro ?_ (And.intro ?_ ?_)) | rfl | refine Fin.mk ?_ | exact True.intro | refine And.intro ?_ ?_)))
 all_goals
  first
   | skip
     with_reducible refine JoinT.left ?_
     cbv
     (repeat' (first | ((with_reducible apply And.intro <;> intro h) <;> (first | with_reducible exact (tf h (by assumption)).elim | with_reducible exact (tf (by assumption) h).elim | cbv)) | ((with_reducible first | refine Cb.mk ?_ | refine Lz.mk ?_ | (apply AllT.mk; intro x hx)); cbv) | ((with_reducible refine Ob.mk (fun _ => ?_) ?_); rotate_left 1) | (with_reducible first | refine Mg.mk (Exists.intro ?_ (And.intro ?_ ?_)) | rfl | refine Fin.mk ?_ | exact True.intro | refine And.intro ?_ ?_)))
   | skip
 all_goals
  first
   | skip
     with_reducible refine JoinT.left ?_
     cbv
     (repeat' (first | ((with_reducible apply And.intro <;> intro h) <;> (first | with_reducible exact (tf h (by assumption)).elim | with_reducible exact (tf (by assumption) h).elim | cbv)) | ((with_reducible first | refine Cb.mk ?_ | refine Lz.mk ?_ | (apply AllT.mk; intro x hx)); cbv) | ((with_reducible refine Ob.mk (fun _ => ?_) ?_); rotate_left 1) | (with_reducible first | refine Mg.mk (Exists.intro ?_ (And.intro ?_ ?_)) | rfl | refine Fin.mk ?_ | exact True.intro | refine And.intro ?_ ?_)))
   | skip
 all_goals (try (with_reducible show JoinT _ _ _ _ _ _ _; revert x; intro xm hxm; intros))
 all_goals
  first
   | skip
     with_reducible refine JoinT.left ?_
     cbv
     (repeat' (first | ((with_reducible apply And.intro <;> intro h) <;> (first | with_reducible exact (tf h (by assumption)).elim | with_reducible exact (tf (by assumption) h).elim | cbv)) | ((with_reducible first | refine Cb.mk ?_ | refine Lz.mk ?_ | (apply AllT.mk; intro x hx)); cbv) | ((with_reducible refine Ob.mk (fun _ => ?_) ?_); rotate_left 1) | (with_reducible first | refine Mg.mk (Exists.intro ?_ (And.intro ?_ ?_)) | rfl | refine Fin.mk ?_ | exact True.intro | refine And.intro ?_ ?_)))
   | skip
 all_goals (try (with_reducible show JoinT _ _ _ _ _ _ _; revert x; intro xc hxc; intros))
 all_goals
  first
   | skip
     with_reducible refine JoinT.left ?_
     cbv
     (repeat' (first | ((with_reducible apply And.intro <;> intro h) <;> (first | with_reducible exact (tf h (by assumption)).elim | with_reducible exact (tf (by assumption) h).elim | cbv)) | ((with_reducible first | refine Cb.mk ?_ | refine Lz.mk ?_ | (apply AllT.mk; intro x hx)); cbv) | ((with_reducible refine Ob.mk (fun _ => ?_) ?_); rotate_left 1) | (with_reducible first | refine Mg.mk (Exists.intro ?_ (And.intro ?_ ?_)) | rfl | refine Fin.mk ?_ | exact True.intro | refine And.intro ?_ ?_)))
   | skip
 all_goals
  first
   | skip
     (with_reducible apply JoinT.mg2)
     (focus (cbv; (repeat' (first | ((with_reducible apply And.intro <;> intro h) <;> (first | with_reducible exact (tf h (by assumption)).elim | with_reducible exact (tf (by assumption) h).elim | cbv)) | ((with_reducible first | refine Cb.mk ?_ | refine Lz.mk ?_ | refine JoinT.left ?_ | (apply AllT.mk; intro x hx)); cbv) | ((with_reducible refine Ob.mk (fun _ => ?_) ?_); rotate_left 1) | (with_reducible first | refine Mg.mk (Exists.intro ?_ (And.intro ?_ ?_)) | rfl | refine Fin.mk ?_ | exact True.intro | refine And.intro ?_ ?_))); (all_goals (try (have du : Unit := (); have dv : Unit := (); first | exact Goes.self (Ex2.mk ⟨dv, du, trivial, trivial, rfl⟩) | exact Goes.self (Ex2.mk ⟨x, du, hx, trivial, rfl⟩) | (rename_i xa hxa; exact Goes.self (Ex2.mk ⟨xa, x, hxa, hx, rfl⟩)))))))
   | skip
 all_goals
  first
   | skip
     with_reducible refine AllT.mk (fun x hx => ?_)
     cbv
     (repeat' (first | ((with_reducible apply And.intro <;> intro h) <;> (first | with_reducible exact (tf h (by assumption)).elim | with_reducible exact (tf (by assumption) h).elim | cbv)) | ((with_reducible first | refine Cb.mk ?_ | refine Lz.mk ?_ | (apply AllT.mk; intro x hx)); cbv) | ((with_reducible refine Ob.mk (fun _ => ?_) ?_); rotate_left 1) | (with_reducible first | refine Mg.mk (Exists.intro ?_ (And.intro ?_ ?_)) | rfl | refine Fin.mk ?_ | exact True.intro | refine And.intro ?_ ?_)))
   | skip
 all_goals first
  | (with_reducible show JoinT _ _ _ _ _ _ _; skip)
  | ((try dsimp only [Shp.D, Shp.Ds, Shp.dflt] at *); simp only [vem, veq, ne_eq, cmpI, arI, dvI, shI, SV.den, obLt, elemAt, obApp, partL, obPart, lowD, highD, mxOk, convL_self, zerosB, List.length_replicate, vln] at *; (try dsimp only [Shp.D, Shp.Ds, Shp.dflt, Shp.dflts] at *); done)
  | (((try dsimp only [Shp.D, Shp.Ds, Shp.dflt] at *); simp only [vem, veq, ne_eq, cmpI, arI, dvI, shI, SV.den, obLt, elemAt, obApp, partL, obPart, lowD, highD, mxOk, convL_self, zerosB, List.length_replicate, vln] at *; (try dsimp only [Shp.D, Shp.Ds, Shp.dflt, Shp.dflts] at *)); first | done | omega | (simp_all; done) | exact few_0 hxm.1 | exact idx_ok hv h | exact idx_ok hv (by assumption) | exact app_a hxm.1.few | exact app_b hxm.1.few | skip)
 obtain ⟨j, hj⟩ : ∃ j : Nat, j = (Int.tmod ((at1 + 9223372036854775808) % 18446744073709551616 - 9223372036854775808) (xm.1.2.1.length : Int)).toNat := ⟨_, rfl⟩
 with_reducible refine join_hvB [8] (rangeN 9 50) [8] [2856] [3304, 2793, 2795, 2797, 2799, 2801, 2803, 2805, 2806, 2807] (fun z b t y => b 8 = freeT (xm.1.2.1.getD j pl0).1 ∧ y 3304 plE = xm.1.2.1 ++ [xm.1.2.1.getD j pl0]) (by cbv) ?_ ?_
 ·intro R1 hR1
  cbv
  (repeat' (first | ((with_reducible apply And.intro <;> intro h) <;> (first | with_reducible exact (tf h (by assumption)).elim | with_reducible exact (tf (by assumption) h).elim | cbv)) | ((with_reducible first | refine Cb.mk ?_ | refine Lz.mk ?_ | refine JoinT.left ?_ | (apply AllT.mk; intro x hx)); cbv) | ((with_reducible refine Ob.mk (fun _ => ?_) ?_); rotate_left 1) | (with_reducible first | refine Mg.mk (Exists.intro ?_ (And.intro ?_ ?_)) | rfl | refine Fin.mk ?_ | exact True.intro | refine And.intro ?_ ?_)))
  all_goals first
   | (with_reducible show Goes _ _ _ _; skip)
   | ((try dsimp only [Shp.D, Shp.Ds, Shp.dflt] at *); simp only [vem, veq, ne_eq, cmpI, arI, dvI, shI, SV.den, obLt, elemAt, obApp, partL, obPart, lowD, highD, mxOk, convL_self, zerosB, List.length_replicate, vln] at *; (try dsimp only [Shp.D, Shp.Ds, Shp.dflt, Shp.dflts] at *); done)
   | (try ((try dsimp only [Shp.D, Shp.Ds, Shp.dflt] at *); simp only [vem, veq, ne_eq, cmpI, arI, dvI, shI, SV.den, obLt, elemAt, obApp, partL, obPart, lowD, highD, mxOk, convL_self, zerosB, List.length_replicate, vln] at *; (try dsimp only [Shp.D, Shp.Ds, Shp.dflt, Shp.dflts] at *)))
  all_goals
   (((with_reducible refine hR1 _ ?_ (fun zq bq tq yq hUq => ?_)); (focus (refine EndOk.mk (by cbv) (by cbv) (by cbv; repeat' (first | exact True.intro | exact rfl | with_reducible refine And.intro ?_ ?_)) (by cbv; repeat' (first | exact True.intro | exact rfl | with_reducible refine And.intro ?_ ?_)) (by cbv; repeat' (first | exact True.intro | exact rfl | with_reducible refine And.intro ?_ ?_)))); (have qb8 := hUq.b 8); (cbv at qb8); (replace qb8 := qb8.eq); (simp only [atB, vem, veq, ne_eq, cmpI, arI, dvI, shI, SV.den] at qb8); (have qy3304 := hUq.y 3304 (plE)); (cbv at qy3304); (replace qy3304 := qy3304.eq); (simp only [atY, convL_self, vem, veq, ne_eq, cmpI, arI, dvI, shI, SV.den] at qy3304); (clear hUq hR1); (try dsimp only [Shp.D, Shp.Ds, Shp.dflt] at *); (try simp only [vem, veq, ne_eq, cmpI, arI, dvI, shI, SV.den, elemAt, convL_self] at *); (try dsimp only [Shp.D, Shp.Ds, Shp.dflt, Shp.dflts] at *))); (try ((try dsimp only [Shp.D, Shp.Ds, Shp.dflt] at *); simp only [vem, veq, ne_eq, cmpI, arI, dvI, shI, SV.den, obLt, elemAt, obApp, partL, obPart, lowD, highD, mxOk, convL_self, zerosB, List.length_replicate, vln] at *; (try dsimp only [Shp.D, Shp.Ds, Shp.dflt, Shp.dflts] at *)))
   subst hj
   first
    | exact ⟨free_1 qb8 (.inl h), q_of qy3304 rfl⟩
    | exact ⟨free_1 qb8 (.inr (.inl h)), q_of qy3304 rfl⟩
    | exact ⟨free_1 qb8 (.inr (.inr (.inl h))), q_of qy3304 rfl⟩
    | exact ⟨free_2 qb8 (by assumption) (by assumption) (by assumption), q_of qy3304 rfl⟩
    | exact ⟨free_3 qb8 (by assumption) (by assumption) (by assumption), q_of qy3304 rfl⟩
 intro z1 b1 t1 u1 y1 hP1
 obtain ⟨p1, p2⟩ := hP1
 cbv
 (repeat' (first | ((with_reducible apply And.intro <;> intro h) <;> (first | with_reducible exact (tf h (by assumption)).elim | with_reducible exact (tf (by assumption) h).elim | cbv)) | ((with_reducible first | refine Cb.mk ?_ | refine Lz.mk ?_ | (apply AllT.mk; intro x hx)); cbv) | ((with_reducible refine Ob.mk (fun _ => ?_) ?_); rotate_left 1) | (with_reducible first | refine Mg.mk (Exists.intro ?_ (And.intro ?_ ?_)) | rfl | refine Fin.mk ?_ | exact True.intro | refine And.intro ?_ ?_)))
 all_goals
  first
   | skip
     with_reducible refine JoinT.left ?_
     cbv
     (repeat' (first | ((with_reducible apply And.intro <;> intro h) <;> (first | with_reducible exact (tf h (by assumption)).elim | with_reducible exact (tf (by assumption) h).elim | cbv)) | ((with_reducible first | refine Cb.mk ?_ | refine Lz.mk ?_ | (apply AllT.mk; intro x hx)); cbv) | ((with_reducible refine Ob.mk (fun _ => ?_) ?_); rotate_left 1) | (with_reducible first | refine Mg.mk (Exists.intro ?_ (And.intro ?_ ?_)) | rfl | refine Fin.mk ?_ | exact True.intro | refine And.intro ?_ ?_)))
   | skip
 all_goals
  first
   | skip
     with_reducible refine JoinT.left ?_
     cbv
     (repeat' (first | ((with_reducible apply And.intro <;> intro h) <;> (first | with_reducible exact (tf h (by assumption)).elim | with_reducible exact (tf (by assumption) h).elim | cbv)) | ((with_reducible first | refine Cb.mk ?_ | refine Lz.mk ?_ | (apply AllT.mk; intro x hx)); cbv) | ((with_reducible refine Ob.mk (fun _ => ?_) ?_); rotate_left 1) | (with_reducible first | refine Mg.mk (Exists.intro ?_ (And.intro ?_ ?_)) | rfl | refine Fin.mk ?_ | exact True.intro | refine And.intro ?_ ?_)))
   | skip
 all_goals first
  | (with_reducible show JoinT _ _ _ _ _ _ _; skip)
  | ((try dsimp only [Shp.D, Shp.Ds, Shp.dflt] at *); simp only [vem, veq, ne_eq, cmpI, arI, dvI, shI, SV.den, obLt, elemAt, obApp, partL, obPart, lowD, highD, mxOk, convL_self, zerosB, List.length_replicate, vln] at *; (try dsimp only [Shp.D, Shp.Ds, Shp.dflt, Shp.dflts] at *); done)
  | (((try dsimp only [Shp.D, Shp.Ds, Shp.dflt] at *); simp only [vem, veq, ne_eq, cmpI, arI, dvI, shI, SV.den, obLt, elemAt, obApp, partL, obPart, lowD, highD, mxOk, convL_self, zerosB, List.length_replicate, vln] at *; (try dsimp only [Shp.D, Shp.Ds, Shp.dflt, Shp.dflts] at *))
     have G := rep_G hxm.1 hxc.1 (by assumption) hv hj (by assumption)
     first | done | omega | exact few_1 p2 hxm.1 | exact last_ok p2 hxm.1.few | exact few_3 (set_last p2 hxm.1.few rfl) hxm.1 | exact law_4 hx G p2 hxm.1.few rfl rfl (by assumption) | (rcases law_1 G p1 p2 hx with ⟨a, b⟩ | ⟨a, b⟩ <;> (clear G hx hxc hxm p1 p2 hj; simp_all; done)) | skip)
 all_goals
  first
   | skip
     with_reducible refine JoinT.dp ?_
     cbv
     (repeat' (first | ((with_reducible apply And.intro <;> intro h) <;> (first | with_reducible exact (tf h (by assumption)).elim | with_reducible exact (tf (by assumption) h).elim | cbv)) | ((fail_if_success (with_reducible show JoinT (fun s K => vc _ (Code.region _ _ true) s K) _ _ _ _ _ _)); (with_reducible refine JoinT.left ?_); cbv) | (with_reducible apply SetsK.at) | (with_reducible apply Closed.nil) | (with_reducible apply Closed.cons) | ((with_reducible first | refine AllP.k0 ?_ | (apply AllP.k1; intro x hx) | (apply AllP.k2; intro x hx x hx) | (apply AllP.k3; intro x hx x hx x hx) | (apply AllP.k4; intro x hx x hx x hx x hx)); cbv) | (with_reducible apply SetIn.at) | ((fail_if_success (with_reducible show SetIn _ _ _ [])); (with_reducible apply SetIn.tl)) | (with_reducible apply SetAt.i0) | (with_reducible apply SetAt.i1 x hx) | (rename_i x1 h1; with_reducible apply SetAt.i2 x1 x h1 hx) | (rename_i x1 h1 x2 h2; with_reducible apply SetAt.i3 x1 x2 x h1 h2 hx) | (rename_i x1 h1 x2 h2 x3 h3; with_reducible apply SetAt.i4 x1 x2 x3 x h1 h2 h3 hx) | ((with_reducible first | refine Cb.mk ?_ | refine Lz.mk ?_ | (apply AllT.mk; intro x hx)); cbv) | ((with_reducible refine Ob.mk (fun _ => ?_) ?_); rotate_left 1) | (with_reducible first | refine Mg.mk (Exists.intro ?_ (And.intro ?_ ?_)) | rfl | refine Fin.mk ?_ | exact True.intro | refine And.intro ?_ ?_)))
   | skip
 all_goals first
  | (with_reducible show JoinT _ _ _ _ _ _ _; skip)
  | ((try dsimp only [Shp.D, Shp.Ds, Shp.dflt] at *); simp only [vem, veq, ne_eq, cmpI, arI, dvI, shI, SV.den, obLt, elemAt, obApp, partL, obPart, lowD, highD, mxOk, convL_self, zerosB, List.length_replicate, vln] at *; (try dsimp only [Shp.D, Shp.Ds, Shp.dflt, Shp.dflts] at *); done)
  | (((try dsimp only [Shp.D, Shp.Ds, Shp.dflt] at *); simp only [vem, veq, ne_eq, cmpI, arI, dvI, shI, SV.den, obLt, elemAt, obApp, partL, obPart, lowD, highD, mxOk, convL_self, zerosB, List.length_replicate, vln] at *; (try dsimp only [Shp.D, Shp.Ds, Shp.dflt, Shp.dflts] at *))
     have G := rep_G hxm.1 hxc.1 (by assumption) hv hj (by assumption)
     first | done | omega | exact few_1 p2 hxm.1 | exact last_ok p2 hxm.1.few | exact few_3 (set_last p2 hxm.1.few rfl) hxm.1 | exact law_4 hx G p2 hxm.1.few rfl rfl (by assumption) | (rcases law_1 G p1 p2 hx with ⟨a, b⟩ | ⟨a, b⟩ <;> (clear G hx hxc hxm p1 p2 hj; simp_all; done)) | skip)
theorem law_MessageRepeats (x : Shp.Ds repAs) (w : World) (vals : List Value) (hr : ArgsRep w repAs x vals) (hi : inrs repAs x) : Calls Try.prog 3 vals.toArray w fun e w' => e = .returned (.bool true) ∧ Below w.heap.size w w' :=
 law_of_vc Try.func3 (by kernel_rfl) repC_cx hr (rep_vc x hi)
end Go.Proofs.Ytbdfijdianaghaa.V
