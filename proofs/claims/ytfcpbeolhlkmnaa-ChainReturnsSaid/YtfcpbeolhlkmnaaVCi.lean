/- Contracts: lists of payloads are compared. -/
import Derived.Test.YtfcpbeolhlkmnaaVCf
import Derived.Test.YtfcpbeolhlkmnaaVCd
set_option linter.unusedVariables false
set_option linter.unusedSimpArgs false
namespace Go.Proofs.Ytfcpbeolhlkmnaa.V
open Go.RowKit
set_option maxHeartbeats 8000000
set_option maxRecDepth 100000
abbrev smrSp : Spec := fnSpec [.sl rawE, .sl rawE] [.bool] [] (fun _ => True) fun x y => x.1 = x.2.1 → y.1 = true
def smC_t : SpecT := lf0 19 (eqlSp)
def smC : Cx := ⟨tt, qt, bt, st, smC_t, 0, 1000000000000000, fun _ => none, false, CxE.no⟩
theorem smC_si {E : Env} (h : E.ok) : SpecsOk Try.prog E (CxE.no) smC_t (fun _ => none) := ⟨(lf0_ok (reql_sp h)), noI_ok _ _ _⟩
theorem smC_x {E : Env} (h : E.ok) : CxEOk Try.prog E (CxE.no) := CxE.no_ok _ _
theorem smC_cx (E : Env) (h : E.ok) (h1 : E.lo = 0) (h2 : E.hi = 1000000000000000) : Cx.ok smC Try.prog E := ⟨tt_ok, qt_ok, bt_ok, smC_si h, h, h1, h2, mixed_ok, smC_x h⟩
theorem smC_from (lo hi : Nat) (E : Env) (h : E.ok) (h1 : E.lo = lo) (h2 : E.hi = hi) : Cx.ok (Cx.from smC lo hi) Try.prog E := ⟨tt_ok, qt_ok, bt_ok, smC_si h, h, h1, h2, mixed_ok, smC_x h⟩
theorem smr_fn : hasFn Try.prog 36 := ⟨_, Try.func36, by rfl, by rfl⟩
theorem smr_sp {E : Env} (hE : E.ok) : SpecOk Try.prog E 36 smrSp := by
  refine spec_of_vc (C := smC) smr_fn Try.func36 (by kernel_rfl) smC_cx (fun x hl hx => ?_) hE
  obtain ⟨l, m, u⟩ := x
  simp only [Shp.lims, Shp.lim] at hl
  have ha := hl.1.1
  have hb := hl.2.1.1
  clear hl
  cbv
  (repeat' (first | ((with_reducible refine And.intro (fun h => ?_) (fun h => ?_)) <;> (first | with_reducible exact (tf h (by assumption)).elim | with_reducible exact (tf (by assumption) h).elim | cbv)) | ((with_reducible show JoinT (fun s K => vc _ (Code.region _ _ true) s K) _ _ _ _ _); (with_reducible apply JoinT.mg2); (focus (cbv; (repeat' (first | ((with_reducible refine And.intro (fun h => ?_) (fun h => ?_)) <;> (first | with_reducible exact (tf h (by assumption)).elim | with_reducible exact (tf (by assumption) h).elim | cbv)) | ((with_reducible first | refine Cb.mk ?_ | refine Lz.mk ?_ | refine JoinT.left ?_ | refine AllT.mk (fun x hx => ?_)); cbv) | ((with_reducible refine Ob.mk (fun _ => ?_) ?_); rotate_left 1) | (with_reducible first | refine Mg.mk (Exists.intro ?_ (And.intro ?_ ?_)) | rfl | refine Fin.mk ?_ | exact True.intro | refine And.intro ?_ ?_))); (all_goals (try (have du : Unit := (); have dv : Unit := (); first | exact Goes.self (Ex2.mk ⟨dv, du, trivial, trivial, rfl⟩) | exact Goes.self (Ex2.mk ⟨x, du, hx, trivial, rfl⟩) | (rename_i xa hxa; exact Goes.self (Ex2.mk ⟨xa, x, hxa, hx, rfl⟩))))); (all_goals (fail_if_success (with_reducible first | show Goes _ _ _ _ | show (∃ _, unr _ _ _ _ _ _))))))) | ((with_reducible first | refine Cb.mk ?_ | refine Lz.mk ?_ | refine JoinT.left ?_ | refine AllT.mk (fun x hx => ?_)); cbv) | ((with_reducible refine Ob.mk (fun _ => ?_) ?_); rotate_left 1) | (with_reducible first | refine Mg.mk (Exists.intro ?_ (And.intro ?_ ?_)) | rfl | refine Fin.mk ?_ | exact True.intro | refine And.intro ?_ ?_)))
  all_goals first | (with_reducible show (∃ _, unr _ _ _ _ _ _); skip) | (with_reducible show Goes _ _ _ _; skip) | (with_reducible show JoinT _ _ _ _ _ _; skip) | (first | ((((try dsimp only [Shp.D, Shp.Ds, Shp.dflt] at *); simp only [vem, veq, ne_eq, cmpI, arI, dvI, shI, SV.den, obLt, elemAt, obApp, partL, obPart, lowD, highD, mxOk, convL_self, zerosB, List.length_replicate, vln] at *; (try dsimp only [Shp.D, Shp.Ds, Shp.dflt, Shp.dflts] at *)) <;> (try simp only [Shp.lims, Shp.lim, IntKind.wrap_u64, IntKind.wrap_u8] at *) <;> omega); done) | ((try dsimp only [Shp.D, Shp.Ds, Shp.dflt] at *); simp only [vem, veq, ne_eq, cmpI, arI, dvI, shI, SV.den, obLt, elemAt, obApp, partL, obPart, lowD, highD, mxOk, convL_self, zerosB, List.length_replicate, vln] at *; (try dsimp only [Shp.D, Shp.Ds, Shp.dflt, Shp.dflts] at *); intro h0; subst h0; exact absurd rfl h))
  with_reducible refine loop_hv [] (rangeN 11 44) [] [] (fun z b t y => 0 ≤ z 5 ∧ z 5 ≤ (l.length : Int)) (fun z b t y => ((l.length : Int) - z 5).toNat) (by cbv) (by cbv) ?_ ?_ (fun z1 b1 t1 u1 y1 R1 hP1 hR1 => ?_)
  · refine EndOk.mk (by cbv) (by cbv) (by cbv; repeat' (first | exact True.intro | exact rfl | with_reducible refine And.intro ?_ ?_)) (by cbv; repeat' (first | exact True.intro | exact rfl | with_reducible refine And.intro ?_ ?_)) (by cbv; repeat' (first | exact True.intro | exact rfl | with_reducible refine And.intro ?_ ?_))
  · intro zq bq tq yq hUq
    have q5 := hUq.z 5
    cbv at q5
    replace q5 := q5.eq
    simp only [atI, vem, veq, ne_eq, cmpI, arI, dvI, shI, SV.den] at q5
    clear hUq
    try dsimp only [Shp.D, Shp.Ds, Shp.dflt] at *
    try simp only [vem, veq, ne_eq, cmpI, arI, dvI, shI, SV.den, convL_self] at *
    rw [← q5]
    exact ⟨by omega, by omega⟩
  obtain ⟨p1, p2⟩ := hP1
  cbv
  (repeat' (first | ((with_reducible refine And.intro (fun h => ?_) (fun h => ?_)) <;> (first | with_reducible exact (tf h (by assumption)).elim | with_reducible exact (tf (by assumption) h).elim | cbv)) | ((with_reducible show JoinT (fun s K => vc _ (Code.region _ _ true) s K) _ _ _ _ _); (with_reducible apply JoinT.mg2); (focus (cbv; (repeat' (first | ((with_reducible refine And.intro (fun h => ?_) (fun h => ?_)) <;> (first | with_reducible exact (tf h (by assumption)).elim | with_reducible exact (tf (by assumption) h).elim | cbv)) | ((with_reducible first | refine Cb.mk ?_ | refine Lz.mk ?_ | refine JoinT.left ?_ | refine AllT.mk (fun x hx => ?_)); cbv) | ((with_reducible refine Ob.mk (fun _ => ?_) ?_); rotate_left 1) | (with_reducible first | refine Mg.mk (Exists.intro ?_ (And.intro ?_ ?_)) | rfl | refine Fin.mk ?_ | exact True.intro | refine And.intro ?_ ?_))); (all_goals (try (have du : Unit := (); have dv : Unit := (); first | exact Goes.self (Ex2.mk ⟨dv, du, trivial, trivial, rfl⟩) | exact Goes.self (Ex2.mk ⟨x, du, hx, trivial, rfl⟩) | (rename_i xa hxa; exact Goes.self (Ex2.mk ⟨xa, x, hxa, hx, rfl⟩))))); (all_goals (fail_if_success (with_reducible first | show Goes _ _ _ _ | show (∃ _, unr _ _ _ _ _ _))))))) | ((with_reducible first | refine Cb.mk ?_ | refine Lz.mk ?_ | refine JoinT.left ?_ | refine AllT.mk (fun x hx => ?_)); cbv) | ((with_reducible refine Ob.mk (fun _ => ?_) ?_); rotate_left 1) | (with_reducible first | refine Mg.mk (Exists.intro ?_ (And.intro ?_ ?_)) | rfl | refine Fin.mk ?_ | exact True.intro | refine And.intro ?_ ?_)))
  all_goals first | (with_reducible show Goes _ _ _ _; skip) | (clear hR1)
  all_goals first | (with_reducible show (∃ _, unr _ _ _ _ _ _); skip) | (with_reducible show Goes _ _ _ _; skip) | (with_reducible show JoinT _ _ _ _ _ _; skip) | (first | ((((try dsimp only [Shp.D, Shp.Ds, Shp.dflt] at *); simp only [vem, veq, ne_eq, cmpI, arI, dvI, shI, SV.den, obLt, elemAt, obApp, partL, obPart, lowD, highD, mxOk, convL_self, zerosB, List.length_replicate, vln] at *; (try dsimp only [Shp.D, Shp.Ds, Shp.dflt, Shp.dflts] at *)) <;> (try simp only [Shp.lims, Shp.lim, IntKind.wrap_u64, IntKind.wrap_u8] at *) <;> omega); done) | ((try dsimp only [Shp.D, Shp.Ds, Shp.dflt] at *); simp only [vem, veq, ne_eq, cmpI, arI, dvI, shI, SV.den, obLt, elemAt, obApp, partL, obPart, lowD, highD, mxOk, convL_self, zerosB, List.length_replicate, vln] at *; (try dsimp only [Shp.D, Shp.Ds, Shp.dflt, Shp.dflts] at *); intro h0; subst h0; simp_all; done) | (try ((try dsimp only [Shp.D, Shp.Ds, Shp.dflt] at *); simp only [vem, veq, ne_eq, cmpI, arI, dvI, shI, SV.den, obLt, elemAt, obApp, partL, obPart, lowD, highD, mxOk, convL_self, zerosB, List.length_replicate, vln] at *; (try dsimp only [Shp.D, Shp.Ds, Shp.dflt, Shp.dflts] at *))))
  with_reducible refine hR1 _ ?_ (fun zq bq tq yq hUq => ?_)
  · refine EndOk.mk (by cbv) (by cbv) (by cbv; repeat' (first | exact True.intro | exact rfl | with_reducible refine And.intro ?_ ?_)) (by cbv; repeat' (first | exact True.intro | exact rfl | with_reducible refine And.intro ?_ ?_)) (by cbv; repeat' (first | exact True.intro | exact rfl | with_reducible refine And.intro ?_ ?_))
  have q5 := hUq.z 5
  cbv at q5
  replace q5 := q5.eq
  simp only [atI, vem, veq, ne_eq, cmpI, arI, dvI, shI, SV.den] at q5
  clear hUq hR1
  try dsimp only [Shp.D, Shp.Ds, Shp.dflt] at *
  try simp only [vem, veq, ne_eq, cmpI, arI, dvI, shI, SV.den, elemAt, convL_self] at *
  try dsimp only [Shp.D, Shp.Ds, Shp.dflt, Shp.dflts] at *
  refine ⟨⟨by omega, by omega⟩, by omega⟩
theorem outB_len : ∀ (l : List RawT) (ins : Int), (∀ r ∈ l, r.2.2.1.length ≤ 65531) → (outB l ins).length ≤ 65535 * l.length
  | [], _, _ => by simp [outB]
  | r :: l, ins, h => by
    have h1 := outB_len l ins fun s hs => h s (List.mem_cons_of_mem _ hs)
    have h2 := h r List.mem_cons_self
    rw [outB, List.length_append, oneB_length, List.length_cons]
    omega
theorem chainF_len (l : List RawT) (ins : Int) : (chainF l ins).2.1.length ≤ 2621400 := by
  unfold chainF
  split
  · simp
  · rename_i h
    obtain ⟨c1, c2, _⟩ := checkF_0 (by omega : checkF l ins = 0)
    have := outB_len l ins fun r hr => (chk_at c2 r hr).2.2
    show (outB l ins).length ≤ _
    omega
theorem rcb_len {l : List RawT} {ins p f : Int} {q : List UInt8} {Q : Prop} (h : (p, q, f) = chainF l ins ∧ Q) : q.length ≤ 2621400 := by
  have := chainF_len l ins
  rw [← h.1] at this
  exact this
theorem pa3 {a p e f : Int} {b q : List RawT} {B : List RawT × Int × Int} {P Q : Prop} (h1 : (b, a, e) = B ∧ P) (h2 : (q, p, f) = B ∧ Q) : b = q ∧ a = p ∧ e = f := by
  have := h1.1.trans h2.1.symm
  simpa only [Prod.mk.injEq] using this
end Go.Proofs.Ytfcpbeolhlkmnaa.V
