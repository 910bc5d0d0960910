/- The law NegotiateAccepts. -/
import Derived.Test.YtiinlanpinanhaaVTu
import Derived.Test.YtiinlanpinanhaaVTp
import Derived.Test.YtiinlanpinanhaaVNa
import Derived.Test.YtiinlanpinanhaaVL
set_option linter.unusedVariables false
set_option linter.unusedSimpArgs false
namespace Go.Proofs.Ytiinlanpinanhaa.V
open Go.RowKit
set_option maxHeartbeats 8000000
set_option maxRecDepth 100000
theorem na_4 {pr pr' : Int} {a b : List PrT} {p : PrT} {e : Int} {P Q P' Q' R : Prop} (h1 : (p, e) = chooseR a b ∧ R) (h : e = 0) (ha : (PropsG pr a ∧ P) ∧ Q) (hb : (PropsG pr' b ∧ P') ∧ Q') : okT p.2.2.2.1 := by
  rcases chooseR_e h1.1 with ⟨_, hc⟩ | h3
  rotate_left
  · omega
  unfold chooseF at hc
  obtain ⟨w, hw, hc⟩ := List.exists_of_findSome?_eq_some hc
  obtain ⟨o, ho, hc⟩ := List.exists_of_findSome?_eq_some hc
  obtain ⟨l, hl, rfl⟩ := fit_some.1 hc
  unfold choiceL at hl
  split at hl
  rotate_left
  · cases hl
  refine ⟨fun t ht => ?_⟩
  have h2 := (kinds_sub hl).2 t ht
  exact (hb.1.1.okP.ok w hw).ok t h2.1
theorem na_1' {a b : List PrT} {p q : PrT} {e f : Int} {P Q : Prop} (h1 : (p, e) = chooseR a b ∧ P) (h2 : (q, f) = chooseR b a ∧ Q) (h : ¬ e = 0) : e = 16 ∧ f = 16 := na_1 h1.1 h2.1 h
theorem na_2' {a b : List PrT} {p q : PrT} {e f : Int} {P Q : Prop} (h1 : (p, e) = chooseR a b ∧ P) (h2 : (q, f) = chooseR b a ∧ Q) (h : e = 0) : f = 0 := na_2 h1.1 h2.1 h
theorem na_3' {pr pr' : Int} {a b : List PrT} {p : PrT} {e : Int} {r : Bool} {P Q P' Q' R S : Prop} (ha : (PropsG pr a ∧ P) ∧ Q) (hb : (PropsG pr' b ∧ P') ∧ Q') (h1 : (p, e) = chooseR a b ∧ R) (h : e = 0) (hr : (Acc a p → r = true) ∧ S) : r = true := hr.1 (na_3 ha.1.1 hb.1.1 h1.1 h)
def naC_t : SpecT := nd0 25 (nd0 23 (lf0 15 (newSpec 94)) (lf0 23 (awnSp))) (nd0 26 (lf0 25 (cseSp)) (nd0 27 (lf0 26 (propS)) (lf0 27 (accSp))))
def naC : Cx := ⟨tt, qt, bt, st, naC_t, 0, 1000000000000000, fun _ => none, false, CxE.no⟩
theorem naC_si {E : Env} (h : E.ok) : SpecsOk Try.prog E (CxE.no) naC_t (fun _ => none) := ⟨(nd0_ok (nd0_ok (lf0_ok (new_sp h)) (lf0_ok (awn_sp h))) (nd0_ok (lf0_ok (cse_sp h)) (nd0_ok (lf0_ok (prop_sp h)) (lf0_ok (acc_sp h))))), noI_ok _ _ _⟩
theorem naC_x {E : Env} (h : E.ok) : CxEOk Try.prog E (CxE.no) := CxE.no_ok _ _
theorem naC_cx (E : Env) (h : E.ok) (h1 : E.lo = 0) (h2 : E.hi = 1000000000000000) : Cx.ok naC Try.prog E := ⟨tt_ok, qt_ok, bt_ok, naC_si h, h, h1, h2, mixed_ok, naC_x h⟩
theorem naC_from (lo hi : Nat) (E : Env) (h : E.ok) (h1 : E.lo = lo) (h2 : E.hi = hi) : Cx.ok (Cx.from naC lo hi) Try.prog E := ⟨tt_ok, qt_ok, bt_ok, naC_si h, h, h1, h2, mixed_ok, naC_x h⟩
abbrev naAs : List Shp := [.sl .byte]
theorem na_vc (x : Shp.Ds naAs) : vcLaw naC Try.f6 naAs x := by
  obtain ⟨codes, _⟩ := x
  cbv
  (repeat' (first | ((with_reducible refine And.intro (fun h => ?_) (fun h => ?_)) <;> (first | with_reducible exact (tf h (by assumption)).elim | with_reducible exact (tf (by assumption) h).elim | cbv)) | ((with_reducible show JoinT (fun s K => vc _ (Code.region _ _ true) s K) _ _ _ _ _); (with_reducible apply JoinT.mg2); (focus (cbv; (repeat' (first | ((with_reducible refine And.intro (fun h => ?_) (fun h => ?_)) <;> (first | with_reducible exact (tf h (by assumption)).elim | with_reducible exact (tf (by assumption) h).elim | cbv)) | ((with_reducible first | refine Cb.mk ?_ | refine Lz.mk ?_ | refine JoinT.left ?_ | refine AllT.mk (fun x hx => ?_)); cbv) | ((with_reducible refine Ob.mk (fun _ => ?_) ?_); rotate_left 1) | (with_reducible first | refine Mg.mk (Exists.intro ?_ (And.intro ?_ ?_)) | rfl | refine Fin.mk ?_ | exact True.intro | refine And.intro ?_ ?_))); (all_goals (try (have du : Unit := (); have dv : Unit := (); first | exact Goes.self (Ex2.mk ⟨dv, du, trivial, trivial, rfl⟩) | exact Goes.self (Ex2.mk ⟨x, du, hx, trivial, rfl⟩) | (rename_i xa hxa; exact Goes.self (Ex2.mk ⟨xa, x, hxa, hx, rfl⟩))))); (all_goals (fail_if_success (with_reducible first | show Goes _ _ _ _ | show (∃ _, unr _ _ _ _ _ _))))))) | ((with_reducible first | refine Cb.mk ?_ | refine Lz.mk ?_ | refine JoinT.left ?_ | refine AllT.mk (fun x hx => ?_)); cbv) | ((with_reducible refine Ob.mk (fun _ => ?_) ?_); rotate_left 1) | (with_reducible first | refine Mg.mk (Exists.intro ?_ (And.intro ?_ ?_)) | rfl | refine Fin.mk ?_ | exact True.intro | refine And.intro ?_ ?_)))
  all_goals first | (with_reducible show (∃ _, unr _ _ _ _ _ _); skip) | (with_reducible show Goes _ _ _ _; skip) | (with_reducible show JoinT _ _ _ _ _ _; skip) | (first | ((try dsimp only [Shp.D, Shp.Ds, Shp.dflt] at *); simp only [vem, veq, ne_eq, cmpI, arI, dvI, shI, SV.den, obLt, elemAt, obApp, partL, obPart, lowD, highD, mxOk, convL_self, zerosB, List.length_replicate, vln] at *; (try dsimp only [Shp.D, Shp.Ds, Shp.dflt, Shp.dflts] at *); done) | ((try dsimp only [Shp.D, Shp.Ds, Shp.dflt] at *); simp only [vem, veq, ne_eq, cmpI, arI, dvI, shI, SV.den, obLt, elemAt, obApp, partL, obPart, lowD, highD, mxOk, convL_self, zerosB, List.length_replicate, vln] at *; (try dsimp only [Shp.D, Shp.Ds, Shp.dflt, Shp.dflts] at *); omega) | (((try dsimp only [Shp.D, Shp.Ds, Shp.dflt] at *); simp only [vem, veq, ne_eq, cmpI, arI, dvI, shI, SV.den, obLt, elemAt, obApp, partL, obPart, lowD, highD, mxOk, convL_self, zerosB, List.length_replicate, vln] at *; (try dsimp only [Shp.D, Shp.Ds, Shp.dflt, Shp.dflts] at *); rw [hx.1] at h; cases h); done) | ((try dsimp only [Shp.D, Shp.Ds, Shp.dflt] at *); simp only [vem, veq, ne_eq, cmpI, arI, dvI, shI, SV.den, obLt, elemAt, obApp, partL, obPart, lowD, highD, mxOk, convL_self, zerosB, List.length_replicate, vln] at *; (try dsimp only [Shp.D, Shp.Ds, Shp.dflt, Shp.dflts] at *); exact PropsG.okP (And.left (And.left (by assumption)))) | ((try dsimp only [Shp.D, Shp.Ds, Shp.dflt] at *); simp only [vem, veq, ne_eq, cmpI, arI, dvI, shI, SV.den, obLt, elemAt, obApp, partL, obPart, lowD, highD, mxOk, convL_self, zerosB, List.length_replicate, vln] at *; (try dsimp only [Shp.D, Shp.Ds, Shp.dflt, Shp.dflts] at *); exact na_4 (by assumption) (by assumption) (by assumption) (by assumption)) | ((try dsimp only [Shp.D, Shp.Ds, Shp.dflt] at *); simp only [vem, veq, ne_eq, cmpI, arI, dvI, shI, SV.den, obLt, elemAt, obApp, partL, obPart, lowD, highD, mxOk, convL_self, zerosB, List.length_replicate, vln] at *; (try dsimp only [Shp.D, Shp.Ds, Shp.dflt, Shp.dflts] at *); exact (na_1' (by assumption) hx (by assumption)).2.trans (na_1' (by assumption) hx (by assumption)).1.symm) | ((try dsimp only [Shp.D, Shp.Ds, Shp.dflt] at *); simp only [vem, veq, ne_eq, cmpI, arI, dvI, shI, SV.den, obLt, elemAt, obApp, partL, obPart, lowD, highD, mxOk, convL_self, zerosB, List.length_replicate, vln] at *; (try dsimp only [Shp.D, Shp.Ds, Shp.dflt, Shp.dflts] at *); exact absurd (na_1' (by assumption) hx (by assumption)).1 h) | ((try dsimp only [Shp.D, Shp.Ds, Shp.dflt] at *); simp only [vem, veq, ne_eq, cmpI, arI, dvI, shI, SV.den, obLt, elemAt, obApp, partL, obPart, lowD, highD, mxOk, convL_self, zerosB, List.length_replicate, vln] at *; (try dsimp only [Shp.D, Shp.Ds, Shp.dflt, Shp.dflts] at *); exact na_3' (by assumption) (by assumption) (by assumption) (by assumption) hx) | ((try dsimp only [Shp.D, Shp.Ds, Shp.dflt] at *); simp only [vem, veq, ne_eq, cmpI, arI, dvI, shI, SV.den, obLt, elemAt, obApp, partL, obPart, lowD, highD, mxOk, convL_self, zerosB, List.length_replicate, vln] at *; (try dsimp only [Shp.D, Shp.Ds, Shp.dflt, Shp.dflts] at *); exact absurd (na_2' (by assumption) hx (by assumption)) h) | (try ((try dsimp only [Shp.D, Shp.Ds, Shp.dflt] at *); simp only [vem, veq, ne_eq, cmpI, arI, dvI, shI, SV.den, obLt, elemAt, obApp, partL, obPart, lowD, highD, mxOk, convL_self, zerosB, List.length_replicate, vln] at *; (try dsimp only [Shp.D, Shp.Ds, Shp.dflt, Shp.dflts] at *))))
theorem law_NegotiateAccepts (x : Shp.Ds naAs) (w : World) (vals : List Value) (hr : ArgsRep w naAs x vals) (_ : inrs naAs x) : Calls Try.prog 6 vals.toArray w fun e w' => e = .returned (.bool true) ∧ Below w.heap.size w w' :=
  law_of_vc Try.func6 (by kernel_rfl) naC_cx hr (na_vc x)
end Go.Proofs.Ytiinlanpinanhaa.V
