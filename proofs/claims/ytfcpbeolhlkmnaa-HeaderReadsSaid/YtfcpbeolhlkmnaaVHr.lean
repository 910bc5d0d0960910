/- The law HeaderReads. -/
import Derived.Test.YtfcpbeolhlkmnaaVHw
import Derived.Test.YtfcpbeolhlkmnaaVCg
import Derived.Test.YtfcpbeolhlkmnaaVL
set_option linter.unusedVariables false
set_option linter.unusedSimpArgs false
namespace Go.Proofs.Ytfcpbeolhlkmnaa.V
open Go.RowKit
set_option maxHeartbeats 8000000
set_option maxRecDepth 100000
theorem hdB_length (h : HdT) (n : Int) : (hdB h n).length ≤ 28 := by
  unfold hdB
  have h1 := putF_le h.1 8
  have h2 := putF_le h.2.1 8
  have h3 : (putF (IntKind.u64.wrap h.2.2.2.2.2.1) 4).length = 4 := by unfold putF; rw [if_pos (by omega), putB_length]; rfl
  have h4 : (putF (IntKind.u64.wrap n) 4).length = 4 := by unfold putF; rw [if_pos (by omega), putB_length]; rfl
  simp only [List.length_append, List.length_cons, List.length_nil, h3, h4]
  omega
theorem buildF_length (h : HdT) (n : Int) : (buildF h n).1.length ≤ 28 := by
  unfold buildF
  split
  · simp
  · split
    · simp
    · exact hdB_length h n
theorem fnSpec_post {P : Program} {E : Env} {f : FuncId} {az rs : List Shp} {ts : List TypeId} {pre : Shp.Ds az → Prop} {post post' : Shp.Ds az → Shp.Ds rs → Prop} (h : SpecOk P E f (fnSpec az rs ts pre post)) (hp : ∀ x y, post x y → post' x y) : SpecOk P E f (fnSpec az rs ts pre post') := by
  refine ⟨h.fn, fun lo hi id args s K h1 h2 hs => h.calls lo hi id args s K h1 h2 ?_⟩
  unfold fnSpec at hs ⊢
  cases hd : decArgs s.heap s.ents az args with
  | some d =>
    rw [hd] at hs
    refine obsK_mono ?_ hs
    rintro ⟨ho, hk⟩
    exact ⟨ho, ⟨fun y hy => hk.all y ⟨hp _ _ hy.1, hy.2⟩⟩⟩
  | none => rw [hd] at hs; exact hs
abbrev rbu2Sp : Spec := fnSpec [hdE, .int .i64] [.sl .byte, .int .i64] [5] (fun _ => True) fun x y => y.1.length ≤ 28
theorem rbu2_sp {E : Env} (hE : E.ok) : SpecOk Try.prog E 25 rbu2Sp := fnSpec_post (rbu_sp hE) fun x y h => by
  rw [show y.1 = (buildF x.1 x.2.1).1 from congrArg Prod.fst h]
  exact buildF_length _ _
abbrev chgS : Spec := drSpec 69 [.sl .byte] [.sl .byte] [.sh] (fun x => x.1.length ≤ 100000000) (fun x y => y.1.length ≤ x.1.length + 1)
def hrC_t : SpecT := nd0 25 (nd0 23 (nd0 15 (lf0 13 (newSpec 69)) (lf0 15 (nextS))) (nd0 24 (lf0 23 (awhSp)) (lf0 24 (hdrS)))) (nd0 27 (nd0 26 (lf0 25 (rbu2Sp)) (lf0 26 (chgS))) (nd0 28 (lf0 27 (hpaSp)) (lf0 28 (hpaSp))))
def hrC : Cx := ⟨tt, qt, bt, st, hrC_t, 0, 1000000000000000, fun _ => none, false⟩
theorem hrC_si {E : Env} (h : E.ok) : SpecsOk Try.prog E hrC_t (fun _ => none) := ⟨(nd0_ok (nd0_ok (nd0_ok (lf0_ok (new_sp h)) (lf0_ok (next_sp h))) (nd0_ok (lf0_ok (awh_sp h)) (lf0_ok (dhd_sp h)))) (nd0_ok (nd0_ok (lf0_ok (rbu2_sp h)) (lf0_ok (chg_sp h))) (nd0_ok (lf0_ok (hpa_sp h)) (lf0_ok (rpa_sp h))))), noI_ok _ _⟩
theorem hrC_cx (E : Env) (h : E.ok) (h1 : E.lo = 0) (h2 : E.hi = 1000000000000000) : Cx.ok hrC Try.prog E := ⟨tt_ok, qt_ok, bt_ok, hrC_si h, h, h1, h2, mixed_ok⟩
theorem hrC_from (lo hi : Nat) (E : Env) (h : E.ok) (h1 : E.lo = lo) (h2 : E.hi = hi) : Cx.ok (Cx.from hrC lo hi) Try.prog E := ⟨tt_ok, qt_ok, bt_ok, hrC_si h, h, h1, h2, mixed_ok⟩
theorem selI_nn {l : List Int} {i : Int} (h : l.all (fun n => decide (0 ≤ n)) = true) : 0 ≤ selI l i := by
  unfold selI
  rw [List.getD_eq_getElem?_getD]
  cases hq : l[i.toNat]? with
  | none => simp
  | some n => simpa using List.all_eq_true.1 h n (List.mem_of_getElem? hq)
theorem tm_ok {l : List Int} {i : Int} (h : l.all (fun n => decide (0 ≤ n)) = true) {n : Int} (hn : n > 0) : 0 ≤ (selI l i).tmod n ∧ (selI l i).tmod n < n := ⟨Int.tmod_nonneg _ (selI_nn h), Int.tmod_lt_of_pos _ hn⟩
theorem hrne {p q : HdT × Int × PUnit} {B : HdT × Int} {P Q : Prop} (hne : ¬ p.2.1 = q.2.1) (h1 : (p.1, p.2.1) = B ∧ P) (h2 : (q.1, q.2.1) = B ∧ Q) : False := by
  have := h1.1.trans h2.1.symm
  simp only [Prod.mk.injEq] at this
  exact hne this.2
theorem hreq {p q : HdT × Int × PUnit} {B : HdT × Int} {P Q : Prop} (h : (!(p.1.1 == q.1.1 && (p.1.2.1 == q.1.2.1 && (p.1.2.2.1 == q.1.2.2.1 && (p.1.2.2.2.1 == q.1.2.2.2.1 && (p.1.2.2.2.2.1 == q.1.2.2.2.2.1 && p.1.2.2.2.2.2.1 == q.1.2.2.2.2.2.1)))))) = true) (h1 : (p.1, p.2.1) = B ∧ P) (h2 : (q.1, q.2.1) = B ∧ Q) : False := by
  have := h1.1.trans h2.1.symm
  simp only [Prod.mk.injEq] at this
  rw [this.1] at h
  simp at h
abbrev hrAs : List Shp := [.sl .byte, .sl .byte]
theorem hr_vc (x : Shp.Ds hrAs) : vcLaw hrC Try.f4 hrAs x := by
  obtain ⟨b, codes, _⟩ := x
  cbv
  (repeat' (first | ((with_reducible refine And.intro (fun h => ?_) (fun h => ?_)) <;> (first | with_reducible exact (tf h (by assumption)).elim | with_reducible exact (tf (by assumption) h).elim | cbv)) | ((with_reducible first | refine Cb.mk ?_ | refine Lz.mk ?_ | refine AllT.mk (fun x hx => ?_)); cbv) | ((with_reducible refine Ob.mk (fun _ => ?_) ?_); rotate_left 1) | (with_reducible first | refine Mg.mk (Exists.intro ?_ (And.intro ?_ ?_)) | rfl | refine Fin.mk ?_ | exact True.intro | refine And.intro ?_ ?_)))
  with_reducible refine JoinT.left ?_
  cbv
  (repeat' (first | ((with_reducible refine And.intro (fun h => ?_) (fun h => ?_)) <;> (first | with_reducible exact (tf h (by assumption)).elim | with_reducible exact (tf (by assumption) h).elim | cbv)) | ((with_reducible first | refine Cb.mk ?_ | refine Lz.mk ?_ | refine AllT.mk (fun x hx => ?_)); cbv) | ((with_reducible refine Ob.mk (fun _ => ?_) ?_); rotate_left 1) | (with_reducible first | refine Mg.mk (Exists.intro ?_ (And.intro ?_ ?_)) | rfl | refine Fin.mk ?_ | exact True.intro | refine And.intro ?_ ?_)))
  all_goals first | (with_reducible show (∃ _, unr _ _ _ _ _ _); skip) | (with_reducible show Goes _ _ _ _; skip) | (with_reducible show JoinT _ _ _ _ _ _; skip) | (first | ((try dsimp only [Shp.D, Shp.Ds, Shp.dflt] at *); simp only [vem, veq, ne_eq, cmpI, arI, dvI, shI, SV.den, obLt, elemAt, obApp, partL, obPart, lowD, highD, mxOk, convL_self, zerosB, List.length_replicate, vln] at *; (try dsimp only [Shp.D, Shp.Ds, Shp.dflt, Shp.dflts] at *); done) | ((try dsimp only [Shp.D, Shp.Ds, Shp.dflt] at *); simp only [vem, veq, ne_eq, cmpI, arI, dvI, shI, SV.den, obLt, elemAt, obApp, partL, obPart, lowD, highD, mxOk, convL_self, zerosB, List.length_replicate, vln] at *; (try dsimp only [Shp.D, Shp.Ds, Shp.dflt, Shp.dflts] at *); omega) | (((try dsimp only [Shp.D, Shp.Ds, Shp.dflt] at *); simp only [vem, veq, ne_eq, cmpI, arI, dvI, shI, SV.den, obLt, elemAt, obApp, partL, obPart, lowD, highD, mxOk, convL_self, zerosB, List.length_replicate, vln] at *; (try dsimp only [Shp.D, Shp.Ds, Shp.dflt, Shp.dflts] at *); rw [hx.1] at h; cases h); done) | ((try dsimp only [Shp.D, Shp.Ds, Shp.dflt] at *); simp only [vem, veq, ne_eq, cmpI, arI, dvI, shI, SV.den, obLt, elemAt, obApp, partL, obPart, lowD, highD, mxOk, convL_self, zerosB, List.length_replicate, vln] at *; (try dsimp only [Shp.D, Shp.Ds, Shp.dflt, Shp.dflts] at *); exact tm_ok rfl (by assumption)))
  with_reducible refine JoinT.left ?_
  cbv
  (repeat' (first | ((with_reducible refine And.intro (fun h => ?_) (fun h => ?_)) <;> (first | with_reducible exact (tf h (by assumption)).elim | with_reducible exact (tf (by assumption) h).elim | cbv)) | ((with_reducible first | refine Cb.mk ?_ | refine Lz.mk ?_ | refine AllT.mk (fun x hx => ?_)); cbv) | ((with_reducible refine Ob.mk (fun _ => ?_) ?_); rotate_left 1) | (with_reducible first | refine Mg.mk (Exists.intro ?_ (And.intro ?_ ?_)) | rfl | refine Fin.mk ?_ | exact True.intro | refine And.intro ?_ ?_)))
  all_goals first | (with_reducible show (∃ _, unr _ _ _ _ _ _); skip) | (with_reducible show Goes _ _ _ _; skip) | (with_reducible show JoinT _ _ _ _ _ _; skip) | (first | ((try dsimp only [Shp.D, Shp.Ds, Shp.dflt] at *); simp only [vem, veq, ne_eq, cmpI, arI, dvI, shI, SV.den, obLt, elemAt, obApp, partL, obPart, lowD, highD, mxOk, convL_self, zerosB, List.length_replicate, vln] at *; (try dsimp only [Shp.D, Shp.Ds, Shp.dflt, Shp.dflts] at *); done) | ((try dsimp only [Shp.D, Shp.Ds, Shp.dflt] at *); simp only [vem, veq, ne_eq, cmpI, arI, dvI, shI, SV.den, obLt, elemAt, obApp, partL, obPart, lowD, highD, mxOk, convL_self, zerosB, List.length_replicate, vln] at *; (try dsimp only [Shp.D, Shp.Ds, Shp.dflt, Shp.dflts] at *); omega) | (((try dsimp only [Shp.D, Shp.Ds, Shp.dflt] at *); simp only [vem, veq, ne_eq, cmpI, arI, dvI, shI, SV.den, obLt, elemAt, obApp, partL, obPart, lowD, highD, mxOk, convL_self, zerosB, List.length_replicate, vln] at *; (try dsimp only [Shp.D, Shp.Ds, Shp.dflt, Shp.dflts] at *); rw [hx.1] at h; cases h); done) | ((try dsimp only [Shp.D, Shp.Ds, Shp.dflt] at *); simp only [vem, veq, ne_eq, cmpI, arI, dvI, shI, SV.den, obLt, elemAt, obApp, partL, obPart, lowD, highD, mxOk, convL_self, zerosB, List.length_replicate, vln] at *; (try dsimp only [Shp.D, Shp.Ds, Shp.dflt, Shp.dflts] at *); exact tm_ok rfl (by assumption)))
  with_reducible refine join_hv (25 :: 30 :: 31 :: 33 :: 38 :: rangeN 39 16) [] [] [2920] (fun z b t y => True) (by cbv) ?_ ?_
  · intro R1 hR1
    cbv
    (repeat' (first | ((with_reducible refine And.intro (fun h => ?_) (fun h => ?_)) <;> (first | with_reducible exact (tf h (by assumption)).elim | with_reducible exact (tf (by assumption) h).elim | cbv)) | ((with_reducible first | refine Cb.mk ?_ | refine Lz.mk ?_ | refine JoinT.left ?_ | refine AllT.mk (fun x hx => ?_)); cbv) | ((with_reducible refine Ob.mk (fun _ => ?_) ?_); rotate_left 1) | (with_reducible first | refine Mg.mk (Exists.intro ?_ (And.intro ?_ ?_)) | rfl | refine Fin.mk ?_ | exact True.intro | refine And.intro ?_ ?_)))
    all_goals first | (with_reducible show (∃ _, unr _ _ _ _ _ _); skip) | (with_reducible show Goes _ _ _ _; skip) | (with_reducible show JoinT _ _ _ _ _ _; skip) | (first | ((try dsimp only [Shp.D, Shp.Ds, Shp.dflt] at *); simp only [vem, veq, ne_eq, cmpI, arI, dvI, shI, SV.den, obLt, elemAt, obApp, partL, obPart, lowD, highD, mxOk, convL_self, zerosB, List.length_replicate, vln] at *; (try dsimp only [Shp.D, Shp.Ds, Shp.dflt, Shp.dflts] at *); done) | ((try dsimp only [Shp.D, Shp.Ds, Shp.dflt] at *); simp only [vem, veq, ne_eq, cmpI, arI, dvI, shI, SV.den, obLt, elemAt, obApp, partL, obPart, lowD, highD, mxOk, convL_self, zerosB, List.length_replicate, vln] at *; (try dsimp only [Shp.D, Shp.Ds, Shp.dflt, Shp.dflts] at *); omega) | (((try dsimp only [Shp.D, Shp.Ds, Shp.dflt] at *); simp only [vem, veq, ne_eq, cmpI, arI, dvI, shI, SV.den, obLt, elemAt, obApp, partL, obPart, lowD, highD, mxOk, convL_self, zerosB, List.length_replicate, vln] at *; (try dsimp only [Shp.D, Shp.Ds, Shp.dflt, Shp.dflts] at *); rw [hx.1] at h; cases h); done) | ((try dsimp only [Shp.D, Shp.Ds, Shp.dflt] at *); simp only [vem, veq, ne_eq, cmpI, arI, dvI, shI, SV.den, obLt, elemAt, obApp, partL, obPart, lowD, highD, mxOk, convL_self, zerosB, List.length_replicate, vln] at *; (try dsimp only [Shp.D, Shp.Ds, Shp.dflt, Shp.dflts] at *); exact tm_ok rfl (by assumption)))
    all_goals ((with_reducible refine hR1 _ ?_ (fun zq bq tq yq hUq => ?_)); (focus (refine EndOk.mk (by cbv) (by cbv) (by cbv; repeat' (first | exact True.intro | exact rfl | with_reducible refine And.intro ?_ ?_)) (by cbv; repeat' (first | exact True.intro | exact rfl | with_reducible refine And.intro ?_ ?_)) (by cbv; repeat' (first | exact True.intro | exact rfl | with_reducible refine And.intro ?_ ?_)))); (have qy2920 := hUq.y 2920 (.byte)); (cbv at qy2920); (replace qy2920 := qy2920.eq); (simp only [atY, convL_self, vem, veq, ne_eq, cmpI, arI, dvI, shI, SV.den] at qy2920); (clear hUq hR1); (try dsimp only [Shp.D, Shp.Ds, Shp.dflt] at *); (try simp only [vem, veq, ne_eq, cmpI, arI, dvI, shI, SV.den, elemAt, convL_self] at *); (try dsimp only [Shp.D, Shp.Ds, Shp.dflt, Shp.dflts] at *))
    all_goals trivial
  intro z1 b1 t1 u1 y1 hP1
  cbv
  (repeat' (first | ((with_reducible refine And.intro (fun h => ?_) (fun h => ?_)) <;> (first | with_reducible exact (tf h (by assumption)).elim | with_reducible exact (tf (by assumption) h).elim | cbv)) | ((with_reducible show JoinT (fun s K => vc _ (Code.region _ _ true) s K) _ _ _ _ _); (with_reducible apply JoinT.mg2); (focus (cbv; (repeat' (first | ((with_reducible refine And.intro (fun h => ?_) (fun h => ?_)) <;> (first | with_reducible exact (tf h (by assumption)).elim | with_reducible exact (tf (by assumption) h).elim | cbv)) | ((with_reducible first | refine Cb.mk ?_ | refine Lz.mk ?_ | refine JoinT.left ?_ | refine AllT.mk (fun x hx => ?_)); cbv) | ((with_reducible refine Ob.mk (fun _ => ?_) ?_); rotate_left 1) | (with_reducible first | refine Mg.mk (Exists.intro ?_ (And.intro ?_ ?_)) | rfl | refine Fin.mk ?_ | exact True.intro | refine And.intro ?_ ?_))); (all_goals (try (have du : Unit := (); have dv : Unit := (); first | exact Goes.self (Ex2.mk ⟨dv, du, trivial, trivial, rfl⟩) | exact Goes.self (Ex2.mk ⟨x, du, hx, trivial, rfl⟩) | (rename_i xa hxa; exact Goes.self (Ex2.mk ⟨xa, x, hxa, hx, rfl⟩))))); (all_goals (fail_if_success (with_reducible first | show Goes _ _ _ _ | show (∃ _, unr _ _ _ _ _ _))))))) | ((with_reducible first | refine Cb.mk ?_ | refine Lz.mk ?_ | refine JoinT.left ?_ | refine AllT.mk (fun x hx => ?_)); cbv) | ((with_reducible refine Ob.mk (fun _ => ?_) ?_); rotate_left 1) | (with_reducible first | refine Mg.mk (Exists.intro ?_ (And.intro ?_ ?_)) | rfl | refine Fin.mk ?_ | exact True.intro | refine And.intro ?_ ?_)))
  all_goals first | (with_reducible show (∃ _, unr _ _ _ _ _ _); skip) | (with_reducible show Goes _ _ _ _; skip) | (with_reducible show JoinT _ _ _ _ _ _; skip) | (first | ((try dsimp only [Shp.D, Shp.Ds, Shp.dflt] at *); simp only [vem, veq, ne_eq, cmpI, arI, dvI, shI, SV.den, obLt, elemAt, obApp, partL, obPart, lowD, highD, mxOk, convL_self, zerosB, List.length_replicate, vln] at *; (try dsimp only [Shp.D, Shp.Ds, Shp.dflt, Shp.dflts] at *); done) | ((try dsimp only [Shp.D, Shp.Ds, Shp.dflt] at *); simp only [vem, veq, ne_eq, cmpI, arI, dvI, shI, SV.den, obLt, elemAt, obApp, partL, obPart, lowD, highD, mxOk, convL_self, zerosB, List.length_replicate, vln] at *; (try dsimp only [Shp.D, Shp.Ds, Shp.dflt, Shp.dflts] at *); omega) | (((try dsimp only [Shp.D, Shp.Ds, Shp.dflt] at *); simp only [vem, veq, ne_eq, cmpI, arI, dvI, shI, SV.den, obLt, elemAt, obApp, partL, obPart, lowD, highD, mxOk, convL_self, zerosB, List.length_replicate, vln] at *; (try dsimp only [Shp.D, Shp.Ds, Shp.dflt, Shp.dflts] at *); rw [hx.1] at h; cases h); done) | ((try dsimp only [Shp.D, Shp.Ds, Shp.dflt] at *); simp only [vem, veq, ne_eq, cmpI, arI, dvI, shI, SV.den, obLt, elemAt, obApp, partL, obPart, lowD, highD, mxOk, convL_self, zerosB, List.length_replicate, vln] at *; (try dsimp only [Shp.D, Shp.Ds, Shp.dflt, Shp.dflts] at *); exact tm_ok rfl (by assumption)))
  refine ⟨5, ?_⟩
  cbv
  (repeat' (first | ((with_reducible refine And.intro (fun h => ?_) (fun h => ?_)) <;> (first | with_reducible exact (tf h (by assumption)).elim | with_reducible exact (tf (by assumption) h).elim | cbv)) | ((with_reducible show JoinT (fun s K => vc _ (Code.region _ _ true) s K) _ _ _ _ _); (with_reducible apply JoinT.mg2); (focus (cbv; (repeat' (first | ((with_reducible refine And.intro (fun h => ?_) (fun h => ?_)) <;> (first | with_reducible exact (tf h (by assumption)).elim | with_reducible exact (tf (by assumption) h).elim | cbv)) | ((with_reducible first | refine Cb.mk ?_ | refine Lz.mk ?_ | refine JoinT.left ?_ | refine AllT.mk (fun x hx => ?_)); cbv) | ((with_reducible refine Ob.mk (fun _ => ?_) ?_); rotate_left 1) | (with_reducible first | refine Mg.mk (Exists.intro ?_ (And.intro ?_ ?_)) | rfl | refine Fin.mk ?_ | exact True.intro | refine And.intro ?_ ?_))); (all_goals (try (have du : Unit := (); have dv : Unit := (); first | exact Goes.self (Ex2.mk ⟨dv, du, trivial, trivial, rfl⟩) | exact Goes.self (Ex2.mk ⟨x, du, hx, trivial, rfl⟩) | (rename_i xa hxa; exact Goes.self (Ex2.mk ⟨xa, x, hxa, hx, rfl⟩))))); (all_goals (fail_if_success (with_reducible first | show Goes _ _ _ _ | show (∃ _, unr _ _ _ _ _ _))))))) | ((with_reducible first | refine Cb.mk ?_ | refine Lz.mk ?_ | refine JoinT.left ?_ | refine AllT.mk (fun x hx => ?_)); cbv) | ((with_reducible refine Ob.mk (fun _ => ?_) ?_); rotate_left 1) | (with_reducible first | refine Mg.mk (Exists.intro ?_ (And.intro ?_ ?_)) | rfl | refine Fin.mk ?_ | exact True.intro | refine And.intro ?_ ?_)))
  all_goals first | (with_reducible show (∃ _, unr _ _ _ _ _ _); skip) | (with_reducible show Goes _ _ _ _; skip) | (with_reducible show JoinT _ _ _ _ _ _; skip) | (first | ((try dsimp only [Shp.D, Shp.Ds, Shp.dflt] at *); simp only [vem, veq, ne_eq, cmpI, arI, dvI, shI, SV.den, obLt, elemAt, obApp, partL, obPart, lowD, highD, mxOk, convL_self, zerosB, List.length_replicate, vln] at *; (try dsimp only [Shp.D, Shp.Ds, Shp.dflt, Shp.dflts] at *); done) | ((try dsimp only [Shp.D, Shp.Ds, Shp.dflt] at *); simp only [vem, veq, ne_eq, cmpI, arI, dvI, shI, SV.den, obLt, elemAt, obApp, partL, obPart, lowD, highD, mxOk, convL_self, zerosB, List.length_replicate, vln] at *; (try dsimp only [Shp.D, Shp.Ds, Shp.dflt, Shp.dflts] at *); omega) | (((try dsimp only [Shp.D, Shp.Ds, Shp.dflt] at *); simp only [vem, veq, ne_eq, cmpI, arI, dvI, shI, SV.den, obLt, elemAt, obApp, partL, obPart, lowD, highD, mxOk, convL_self, zerosB, List.length_replicate, vln] at *; (try dsimp only [Shp.D, Shp.Ds, Shp.dflt, Shp.dflts] at *); rw [hx.1] at h; cases h); done) | ((try dsimp only [Shp.D, Shp.Ds, Shp.dflt] at *); simp only [vem, veq, ne_eq, cmpI, arI, dvI, shI, SV.den, obLt, elemAt, obApp, partL, obPart, lowD, highD, mxOk, convL_self, zerosB, List.length_replicate, vln] at *; (try dsimp only [Shp.D, Shp.Ds, Shp.dflt, Shp.dflts] at *); exact (hrne h (by assumption) (by assumption)).elim) | ((try dsimp only [Shp.D, Shp.Ds, Shp.dflt] at *); simp only [vem, veq, ne_eq, cmpI, arI, dvI, shI, SV.den, obLt, elemAt, obApp, partL, obPart, lowD, highD, mxOk, convL_self, zerosB, List.length_replicate, vln] at *; (try dsimp only [Shp.D, Shp.Ds, Shp.dflt, Shp.dflts] at *); exact (hreq h (by assumption) (by assumption)).elim))
theorem law_HeaderReads (x : Shp.Ds hrAs) (w : World) (vals : List Value) (hr : ArgsRep w hrAs x vals) (_ : inrs hrAs x) : Calls Try.prog 4 vals.toArray w fun e w' => e = .returned (.bool true) ∧ Below w.heap.size w w' :=
  law_of_vc Try.func4 (by kernel_rfl) hrC_cx hr (hr_vc x)
end Go.Proofs.Ytfcpbeolhlkmnaa.V
