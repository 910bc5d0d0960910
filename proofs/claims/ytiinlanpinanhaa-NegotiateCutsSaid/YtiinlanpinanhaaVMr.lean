/- Contracts: selectors meet, by the document. -/
import Derived.Test.YtiinlanpinanhaaVNv
set_option linter.unusedVariables false
set_option linter.unusedSimpArgs false
namespace Go.Proofs.Ytiinlanpinanhaa.V
open Go.RowKit
set_option maxHeartbeats 8000000
set_option maxRecDepth 100000
/-- The meet as the document has it. -/
def rmeet (a b : Sel) : Sel × Bool :=
  if a.lo.fam ≠ b.lo.fam ∨ (a.pr ≠ 0 ∧ b.pr ≠ 0 ∧ a.pr ≠ b.pr) then (Sel.zero, false)
  else if less (amin a.hi b.hi) (amax a.lo b.lo) then (Sel.zero, false)
  else if max (qlo a) (qlo b) > min (qhi a) (qhi b) then (Sel.zero, false)
  else (⟨max a.pr b.pr, if min (qhi a) (qhi b) = -1 then 65535 else if max (qlo a) (qlo b) = -1 then 0 else max (qlo a) (qlo b), if min (qhi a) (qhi b) = -1 then 0 else if max (qlo a) (qlo b) = -1 then 65535 else min (qhi a) (qhi b), amax a.lo b.lo, amin a.hi b.hi⟩, true)
theorem rmeet_eq {a b : Sel} (ha : a.ok) (hb : b.ok) : rmeet a b = meet a b := by
  have kl := key_amax ha.lo hb.lo
  have kh := key_amin ha.hi hb.hi
  have l1 := less_key ha.hi hb.lo
  have l2 := less_key hb.hi ha.lo
  have l3 := less_key (amin_ok ha.hi hb.hi) (amax_ok ha.lo hb.lo)
  rw [kl, kh] at l3
  have la := ha.le
  have lb := hb.le
  by_cases hf : a.lo.fam = b.lo.fam
  · by_cases hp : a.pr ≠ 0 ∧ b.pr ≠ 0 ∧ a.pr ≠ b.pr
    · have r1 : rmeet a b = (Sel.zero, false) := by unfold rmeet; rw [if_pos (.inr hp)]
      have r2 : meet a b = (Sel.zero, false) := by
        unfold meet
        rw [if_neg (by simpa using hf)]
        split
        · rfl
        · split
          · rfl
          · rw [if_pos ⟨hp.2.2, hp.1, hp.2.1⟩]
      rw [r1, r2]
    · have hp1 : ¬ (a.lo.fam ≠ b.lo.fam ∨ (a.pr ≠ 0 ∧ b.pr ≠ 0 ∧ a.pr ≠ b.pr)) := by rintro (h | h); exact h hf; exact hp h
      by_cases hk : key a.hi < key b.lo ∨ key b.hi < key a.lo
      · have r1 : rmeet a b = (Sel.zero, false) := by unfold rmeet; rw [if_neg hp1, if_pos (by rw [l3]; simp only [decide_eq_true_eq]; omega)]
        have r2 : meet a b = (Sel.zero, false) := by
          unfold meet
          rw [if_neg (by simpa using hf)]
          split
          · rfl
          · split
            · rfl
            · rename_i h1 h2
              rw [l1] at h1
              rw [l2] at h2
              simp only [decide_eq_true_eq] at h1 h2
              omega
        rw [r1, r2]
      · have r1 := show rmeet a b = _ from by unfold rmeet; rw [if_neg hp1, if_neg (by rw [l3]; simp only [decide_eq_true_eq]; omega)]
        have r2 := show meet a b = _ from by unfold meet; rw [if_neg (by simpa using hf), if_neg (by rw [l1]; simp only [decide_eq_true_eq]; omega), if_neg (by rw [l2]; simp only [decide_eq_true_eq]; omega), if_neg (by rintro ⟨h1, h2, h3⟩; exact hp ⟨h2, h3, h1⟩)]
        rw [r1, r2]
        rcases ports_of a ha with pa | pa | pa <;> rcases ports_of b hb with pb | pb | pb
        all_goals (simp only [pa, pb, Bool.or_true, Bool.true_or, Bool.or_false, Bool.false_or, Bool.not_true, Bool.not_false, if_true, if_false])
        all_goals ((repeat' split) <;> first | rfl | contradiction | (exfalso; omega) | (simp only [Prod.mk.injEq, Sel.mk.injEq, and_true, true_and]; omega))
  · have r1 : rmeet a b = (Sel.zero, false) := by unfold rmeet; rw [if_pos (.inl hf)]
    have r2 : meet a b = (Sel.zero, false) := by unfold meet; rw [if_pos hf]
    rw [r1, r2]
theorem rless_fs {E : Env} (hE : E.ok) : SpecOk Try.prog E 38 lessFn := fnFn_of (rless_sp hE) fun x y h => by rw [← h]
abbrev amaxFn : Spec := fnFn [adrE, adrE] [adrE] (fun _ => True) fun x => (ofAdr (amax (toAdr x.1) (toAdr x.2.1)), ())
abbrev aminFn : Spec := fnFn [adrE, adrE] [adrE] (fun _ => True) fun x => (ofAdr (amin (toAdr x.1) (toAdr x.2.1)), ())
abbrev qprFn : Spec := fnFn [selE] [.int .i64, .int .i64] (fun _ => True) fun x => (qlo (toSel x.1), qhi (toSel x.1), ())
def rmlC_t : SpecT := lf0 38 (lessFn)
def rmlC : Cx := ⟨tt, qt, bt, st, rmlC_t, 0, 1000000000000000, fun _ => none, false, CxE.no⟩
theorem rmlC_si {E : Env} (h : E.ok) : SpecsOk Try.prog E (CxE.no) rmlC_t (fun _ => none) := ⟨(lf0_ok (rless_fs h)), noI_ok _ _ _⟩
theorem rmlC_x {E : Env} (h : E.ok) : CxEOk Try.prog E (CxE.no) := CxE.no_ok _ _
theorem rmlC_cx (E : Env) (h : E.ok) (h1 : E.lo = 0) (h2 : E.hi = 1000000000000000) : Cx.ok rmlC Try.prog E := ⟨tt_ok, qt_ok, bt_ok, rmlC_si h, h, h1, h2, mixed_ok, rmlC_x h⟩
theorem rmlC_from (lo hi : Nat) (E : Env) (h : E.ok) (h1 : E.lo = lo) (h2 : E.hi = hi) : Cx.ok (Cx.from rmlC lo hi) Try.prog E := ⟨tt_ok, qt_ok, bt_ok, rmlC_si h, h, h1, h2, mixed_ok, rmlC_x h⟩
theorem rgr_fn : hasFn Try.prog 116 := ⟨_, Try.func116, by rfl, by rfl⟩
theorem rgr_sp {E : Env} (hE : E.ok) : SpecOk Try.prog E 116 amaxFn := by
  refine fnFn_of (post := fun (x : Shp.Ds [adrE, adrE]) (y : Shp.Ds [adrE]) => y = (ofAdr (amax (toAdr x.1) (toAdr x.2.1)), ())) ?_ fun x y h => h
  refine spec_of_vc (C := rmlC) rgr_fn Try.func116 (by kernel_rfl) rmlC_cx (fun x hl hx => ?_) hE
  obtain ⟨⟨f, h, l, ⟨⟩⟩, ⟨f', h', l', ⟨⟩⟩, ⟨⟩⟩ := x
  cbv
  (repeat' (first | ((with_reducible refine And.intro (fun h => ?_) (fun h => ?_)) <;> (first | with_reducible exact (tf h (by assumption)).elim | with_reducible exact (tf (by assumption) h).elim | cbv)) | ((with_reducible first | refine Cb.mk ?_ | refine Lz.mk ?_ | refine JoinT.left ?_ | refine AllT.mk (fun x hx => ?_)); cbv) | ((with_reducible refine Ob.mk (fun _ => ?_) ?_); rotate_left 1) | (with_reducible first | refine Mg.mk (Exists.intro ?_ (And.intro ?_ ?_)) | rfl | refine Fin.mk ?_ | exact True.intro | refine And.intro ?_ ?_)))
  all_goals first | (with_reducible show (∃ _, unr _ _ _ _ _ _); skip) | (with_reducible show Goes _ _ _ _; skip) | (with_reducible show JoinT _ _ _ _ _ _; skip) | (first | ((try dsimp only [Shp.D, Shp.Ds, Shp.dflt] at *); simp only [vem, veq, ne_eq, cmpI, arI, dvI, shI, SV.den, obLt, elemAt, obApp, partL, obPart, lowD, highD, mxOk, convL_self, zerosB, List.length_replicate, vln] at *; (try dsimp only [Shp.D, Shp.Ds, Shp.dflt, Shp.dflts] at *); done) | ((try dsimp only [Shp.D, Shp.Ds, Shp.dflt] at *); simp only [vem, veq, ne_eq, cmpI, arI, dvI, shI, SV.den, obLt, elemAt, obApp, partL, obPart, lowD, highD, mxOk, convL_self, zerosB, List.length_replicate, vln] at *; (try dsimp only [Shp.D, Shp.Ds, Shp.dflt, Shp.dflts] at *); simp only [amax, *]; rfl) | ((try dsimp only [Shp.D, Shp.Ds, Shp.dflt] at *); simp only [vem, veq, ne_eq, cmpI, arI, dvI, shI, SV.den, obLt, elemAt, obApp, partL, obPart, lowD, highD, mxOk, convL_self, zerosB, List.length_replicate, vln] at *; (try dsimp only [Shp.D, Shp.Ds, Shp.dflt, Shp.dflts] at *); simp [amax, *, ofAdr, toAdr]))
theorem rsm_fn : hasFn Try.prog 117 := ⟨_, Try.func117, by rfl, by rfl⟩
theorem rsm_sp {E : Env} (hE : E.ok) : SpecOk Try.prog E 117 aminFn := by
  refine fnFn_of (post := fun (x : Shp.Ds [adrE, adrE]) (y : Shp.Ds [adrE]) => y = (ofAdr (amin (toAdr x.1) (toAdr x.2.1)), ())) ?_ fun x y h => h
  refine spec_of_vc (C := rmlC) rsm_fn Try.func117 (by kernel_rfl) rmlC_cx (fun x hl hx => ?_) hE
  obtain ⟨⟨f, h, l, ⟨⟩⟩, ⟨f', h', l', ⟨⟩⟩, ⟨⟩⟩ := x
  cbv
  (repeat' (first | ((with_reducible refine And.intro (fun h => ?_) (fun h => ?_)) <;> (first | with_reducible exact (tf h (by assumption)).elim | with_reducible exact (tf (by assumption) h).elim | cbv)) | ((with_reducible first | refine Cb.mk ?_ | refine Lz.mk ?_ | refine JoinT.left ?_ | refine AllT.mk (fun x hx => ?_)); cbv) | ((with_reducible refine Ob.mk (fun _ => ?_) ?_); rotate_left 1) | (with_reducible first | refine Mg.mk (Exists.intro ?_ (And.intro ?_ ?_)) | rfl | refine Fin.mk ?_ | exact True.intro | refine And.intro ?_ ?_)))
  all_goals first | (with_reducible show (∃ _, unr _ _ _ _ _ _); skip) | (with_reducible show Goes _ _ _ _; skip) | (with_reducible show JoinT _ _ _ _ _ _; skip) | (first | ((try dsimp only [Shp.D, Shp.Ds, Shp.dflt] at *); simp only [vem, veq, ne_eq, cmpI, arI, dvI, shI, SV.den, obLt, elemAt, obApp, partL, obPart, lowD, highD, mxOk, convL_self, zerosB, List.length_replicate, vln] at *; (try dsimp only [Shp.D, Shp.Ds, Shp.dflt, Shp.dflts] at *); done) | ((try dsimp only [Shp.D, Shp.Ds, Shp.dflt] at *); simp only [vem, veq, ne_eq, cmpI, arI, dvI, shI, SV.den, obLt, elemAt, obApp, partL, obPart, lowD, highD, mxOk, convL_self, zerosB, List.length_replicate, vln] at *; (try dsimp only [Shp.D, Shp.Ds, Shp.dflt, Shp.dflts] at *); simp only [amin, *]; rfl) | ((try dsimp only [Shp.D, Shp.Ds, Shp.dflt] at *); simp only [vem, veq, ne_eq, cmpI, arI, dvI, shI, SV.den, obLt, elemAt, obApp, partL, obPart, lowD, highD, mxOk, convL_self, zerosB, List.length_replicate, vln] at *; (try dsimp only [Shp.D, Shp.Ds, Shp.dflt, Shp.dflts] at *); simp [amin, *, ofAdr, toAdr]))
theorem rqp_fn : hasFn Try.prog 114 := ⟨_, Try.func114, by rfl, by rfl⟩
theorem rqp_sp {E : Env} (hE : E.ok) : SpecOk Try.prog E 114 qprFn := by
  refine fnFn_of (post := fun (x : Shp.Ds [selE]) (y : Shp.Ds [.int .i64, .int .i64]) => y = (qlo (toSel x.1), qhi (toSel x.1), ())) ?_ fun x y h => h
  refine spec_of_vc (C := noC) rqp_fn Try.func114 (by kernel_rfl) noC_cx (fun x hl hx => ?_) hE
  obtain ⟨⟨p, a, b, ⟨f, h, l, ⟨⟩⟩, ⟨f', h', l', ⟨⟩⟩, ⟨⟩⟩, ⟨⟩⟩ := x
  cbv
  (repeat' (first | ((with_reducible refine And.intro (fun h => ?_) (fun h => ?_)) <;> (first | with_reducible exact (tf h (by assumption)).elim | with_reducible exact (tf (by assumption) h).elim | cbv)) | ((with_reducible first | refine Cb.mk ?_ | refine Lz.mk ?_ | refine JoinT.left ?_ | refine AllT.mk (fun x hx => ?_)); cbv) | ((with_reducible refine Ob.mk (fun _ => ?_) ?_); rotate_left 1) | (with_reducible first | refine Mg.mk (Exists.intro ?_ (And.intro ?_ ?_)) | rfl | refine Fin.mk ?_ | exact True.intro | refine And.intro ?_ ?_)))
  all_goals first | (with_reducible show (∃ _, unr _ _ _ _ _ _); skip) | (with_reducible show Goes _ _ _ _; skip) | (with_reducible show JoinT _ _ _ _ _ _; skip) | (first | ((try dsimp only [Shp.D, Shp.Ds, Shp.dflt] at *); simp only [vem, veq, ne_eq, cmpI, arI, dvI, shI, SV.den, obLt, elemAt, obApp, partL, obPart, lowD, highD, mxOk, convL_self, zerosB, List.length_replicate, vln] at *; (try dsimp only [Shp.D, Shp.Ds, Shp.dflt, Shp.dflts] at *); done) | ((try dsimp only [Shp.D, Shp.Ds, Shp.dflt] at *); simp only [vem, veq, ne_eq, cmpI, arI, dvI, shI, SV.den, obLt, elemAt, obApp, partL, obPart, lowD, highD, mxOk, convL_self, zerosB, List.length_replicate, vln] at *; (try dsimp only [Shp.D, Shp.Ds, Shp.dflt, Shp.dflts] at *); exfalso; omega) | ((try dsimp only [Shp.D, Shp.Ds, Shp.dflt] at *); simp only [vem, veq, ne_eq, cmpI, arI, dvI, shI, SV.den, obLt, elemAt, obApp, partL, obPart, lowD, highD, mxOk, convL_self, zerosB, List.length_replicate, vln] at *; (try dsimp only [Shp.D, Shp.Ds, Shp.dflt, Shp.dflts] at *); simp [qlo, qhi, opq, alls, toSel, *]; done))
theorem rm_1 {a b : Sel} (h : ¬ a.lo.fam = b.lo.fam ∨ (¬ a.pr = 0 ∧ ¬ b.pr = 0 ∧ ¬ a.pr = b.pr)) : rmeet a b = (Sel.zero, false) := by unfold rmeet; rw [if_pos h]
theorem rm_h {a b : Sel} (hf : a.lo.fam = b.lo.fam) (hp : a.pr = 0 ∨ b.pr = 0 ∨ a.pr = b.pr) : ¬ (a.lo.fam ≠ b.lo.fam ∨ (a.pr ≠ 0 ∧ b.pr ≠ 0 ∧ a.pr ≠ b.pr)) := by
  rintro (h | ⟨h1, h2, h3⟩)
  · exact h hf
  · rcases hp with h | h | h <;> contradiction
theorem rm_2 {a b : Sel} (hf : a.lo.fam = b.lo.fam) (hp : a.pr = 0 ∨ b.pr = 0 ∨ a.pr = b.pr) (h : less (amin a.hi b.hi) (amax a.lo b.lo) = true) : rmeet a b = (Sel.zero, false) := by unfold rmeet; rw [if_neg (rm_h hf hp), if_pos h]
theorem rm_3 {a b : Sel} (hf : a.lo.fam = b.lo.fam) (hp : a.pr = 0 ∨ b.pr = 0 ∨ a.pr = b.pr) (hl : less (amin a.hi b.hi) (amax a.lo b.lo) = false) (h : (if qlo b > qlo a then qlo b else qlo a) > (if qhi b < qhi a then qhi b else qhi a)) : rmeet a b = (Sel.zero, false) := by
  rw [mx_max, mn_min] at h
  unfold rmeet; rw [if_neg (rm_h hf hp), if_neg (by rw [hl]; simp), if_pos h]
theorem rm_4 {a b : Sel} (hf : a.lo.fam = b.lo.fam) (hp : a.pr = 0 ∨ b.pr = 0 ∨ a.pr = b.pr) (hl : less (amin a.hi b.hi) (amax a.lo b.lo) = false) (h : ¬ (if qlo b > qlo a then qlo b else qlo a) > (if qhi b < qhi a then qhi b else qhi a)) (h1 : (if qhi b < qhi a then qhi b else qhi a) = -1) : rmeet a b = (⟨if b.pr > a.pr then b.pr else a.pr, 65535, 0, amax a.lo b.lo, amin a.hi b.hi⟩, true) := by
  rw [mx_max, mn_min] at h
  rw [mn_min] at h1
  rw [mx_max]
  unfold rmeet; rw [if_neg (rm_h hf hp), if_neg (by rw [hl]; simp), if_neg h, if_pos h1, if_pos h1]
theorem rm_5 {a b : Sel} (hf : a.lo.fam = b.lo.fam) (hp : a.pr = 0 ∨ b.pr = 0 ∨ a.pr = b.pr) (hl : less (amin a.hi b.hi) (amax a.lo b.lo) = false) (h : ¬ (if qlo b > qlo a then qlo b else qlo a) > (if qhi b < qhi a then qhi b else qhi a)) (h1 : ¬ (if qhi b < qhi a then qhi b else qhi a) = -1) (h2 : (if qlo b > qlo a then qlo b else qlo a) = -1) : rmeet a b = (⟨if b.pr > a.pr then b.pr else a.pr, 0, 65535, amax a.lo b.lo, amin a.hi b.hi⟩, true) := by
  rw [mx_max, mn_min] at h
  rw [mn_min] at h1
  rw [mx_max] at h2
  rw [mx_max]
  unfold rmeet; rw [if_neg (rm_h hf hp), if_neg (by rw [hl]; simp), if_neg h, if_neg h1, if_pos h2, if_neg h1, if_pos h2]
theorem rm_6 {a b : Sel} (hf : a.lo.fam = b.lo.fam) (hp : a.pr = 0 ∨ b.pr = 0 ∨ a.pr = b.pr) (hl : less (amin a.hi b.hi) (amax a.lo b.lo) = false) (h : ¬ (if qlo b > qlo a then qlo b else qlo a) > (if qhi b < qhi a then qhi b else qhi a)) (h1 : ¬ (if qhi b < qhi a then qhi b else qhi a) = -1) (h2 : ¬ (if qlo b > qlo a then qlo b else qlo a) = -1) : rmeet a b = (⟨if b.pr > a.pr then b.pr else a.pr, (if qlo b > qlo a then qlo b else qlo a), (if qhi b < qhi a then qhi b else qhi a), amax a.lo b.lo, amin a.hi b.hi⟩, true) := by
  rw [mx_max, mn_min] at h
  rw [mn_min] at h1
  rw [mx_max] at h2
  simp only [mx_max, mn_min]
  unfold rmeet; rw [if_neg (rm_h hf hp), if_neg (by rw [hl]; simp), if_neg h, if_neg h1, if_neg h2, if_neg h1, if_neg h2]
def rmtC_t : SpecT := nd0 116 (nd0 114 (lf0 38 (lessFn)) (lf0 114 (qprFn))) (nd0 117 (lf0 116 (amaxFn)) (lf0 117 (aminFn)))
def rmtC : Cx := ⟨tt, qt, bt, st, rmtC_t, 0, 1000000000000000, fun _ => none, false, CxE.no⟩
theorem rmtC_si {E : Env} (h : E.ok) : SpecsOk Try.prog E (CxE.no) rmtC_t (fun _ => none) := ⟨(nd0_ok (nd0_ok (lf0_ok (rless_fs h)) (lf0_ok (rqp_sp h))) (nd0_ok (lf0_ok (rgr_sp h)) (lf0_ok (rsm_sp h)))), noI_ok _ _ _⟩
theorem rmtC_x {E : Env} (h : E.ok) : CxEOk Try.prog E (CxE.no) := CxE.no_ok _ _
theorem rmtC_cx (E : Env) (h : E.ok) (h1 : E.lo = 0) (h2 : E.hi = 1000000000000000) : Cx.ok rmtC Try.prog E := ⟨tt_ok, qt_ok, bt_ok, rmtC_si h, h, h1, h2, mixed_ok, rmtC_x h⟩
theorem rmtC_from (lo hi : Nat) (E : Env) (h : E.ok) (h1 : E.lo = lo) (h2 : E.hi = hi) : Cx.ok (Cx.from rmtC lo hi) Try.prog E := ⟨tt_ok, qt_ok, bt_ok, rmtC_si h, h, h1, h2, mixed_ok, rmtC_x h⟩
abbrev rmeetSp : Spec := fnSpec [selE, selE] [selE, .bool] [] (fun _ => True) fun x y => rmeet (toSel x.1) (toSel x.2.1) = (toSel y.1, y.2.1)
theorem rmt_fn : hasFn Try.prog 106 := ⟨_, Try.func106, by rfl, by rfl⟩
theorem rmt_sp {E : Env} (hE : E.ok) : SpecOk Try.prog E 106 rmeetSp := by
  refine spec_of_vc (C := rmtC) rmt_fn Try.func106 (by kernel_rfl) rmtC_cx (fun x hl hx => ?_) hE
  obtain ⟨⟨p, a, c, ⟨f, h, l, ⟨⟩⟩, ⟨f', h', l', ⟨⟩⟩, ⟨⟩⟩, ⟨p2, a2, c2, ⟨g, k, m, ⟨⟩⟩, ⟨g', k', m', ⟨⟩⟩, ⟨⟩⟩, ⟨⟩⟩ := x
  cbv
  (repeat' (first | ((with_reducible refine And.intro (fun h => ?_) (fun h => ?_)) <;> (first | with_reducible exact (tf h (by assumption)).elim | with_reducible exact (tf (by assumption) h).elim | cbv)) | ((with_reducible show JoinT (fun s K => vc _ (Code.region _ _ true) s K) _ _ _ _ _); (with_reducible apply JoinT.mg2); (focus (cbv; (repeat' (first | ((with_reducible refine And.intro (fun h => ?_) (fun h => ?_)) <;> (first | with_reducible exact (tf h (by assumption)).elim | with_reducible exact (tf (by assumption) h).elim | cbv)) | ((with_reducible first | refine Cb.mk ?_ | refine Lz.mk ?_ | refine JoinT.left ?_ | refine AllT.mk (fun x hx => ?_)); cbv) | ((with_reducible refine Ob.mk (fun _ => ?_) ?_); rotate_left 1) | (with_reducible first | refine Mg.mk (Exists.intro ?_ (And.intro ?_ ?_)) | rfl | refine Fin.mk ?_ | exact True.intro | refine And.intro ?_ ?_))); (all_goals (try (have du : Unit := (); have dv : Unit := (); first | exact Goes.self (Ex2.mk ⟨dv, du, trivial, trivial, rfl⟩) | exact Goes.self (Ex2.mk ⟨x, du, hx, trivial, rfl⟩) | (rename_i xa hxa; exact Goes.self (Ex2.mk ⟨xa, x, hxa, hx, rfl⟩))))); (all_goals (fail_if_success (with_reducible first | show Goes _ _ _ _ | show (∃ _, unr _ _ _ _ _ _))))))) | ((with_reducible first | refine Cb.mk ?_ | refine Lz.mk ?_ | refine JoinT.left ?_ | refine AllT.mk (fun x hx => ?_)); cbv) | ((with_reducible refine Ob.mk (fun _ => ?_) ?_); rotate_left 1) | (with_reducible first | refine Mg.mk (Exists.intro ?_ (And.intro ?_ ?_)) | rfl | refine Fin.mk ?_ | exact True.intro | refine And.intro ?_ ?_)))
  all_goals first | (with_reducible show (∃ _, unr _ _ _ _ _ _); skip) | (with_reducible show Goes _ _ _ _; skip) | (with_reducible show JoinT _ _ _ _ _ _; skip) | (first | ((try dsimp only [Shp.D, Shp.Ds, Shp.dflt] at *); simp only [vem, veq, ne_eq, cmpI, arI, dvI, shI, SV.den, obLt, elemAt, obApp, partL, obPart, lowD, highD, mxOk, convL_self, zerosB, List.length_replicate, vln] at *; (try dsimp only [Shp.D, Shp.Ds, Shp.dflt, Shp.dflts] at *); done) | ((try dsimp only [Shp.D, Shp.Ds, Shp.dflt] at *); simp only [vem, veq, ne_eq, cmpI, arI, dvI, shI, SV.den, obLt, elemAt, obApp, partL, obPart, lowD, highD, mxOk, convL_self, zerosB, List.length_replicate, vln] at *; (try dsimp only [Shp.D, Shp.Ds, Shp.dflt, Shp.dflts] at *); exact rm_1 (.inl h)) | ((try dsimp only [Shp.D, Shp.Ds, Shp.dflt] at *); simp only [vem, veq, ne_eq, cmpI, arI, dvI, shI, SV.den, obLt, elemAt, obApp, partL, obPart, lowD, highD, mxOk, convL_self, zerosB, List.length_replicate, vln] at *; (try dsimp only [Shp.D, Shp.Ds, Shp.dflt, Shp.dflts] at *); exact rm_1 (.inr ⟨by assumption, by assumption, h⟩)) | ((try dsimp only [Shp.D, Shp.Ds, Shp.dflt] at *); simp only [vem, veq, ne_eq, cmpI, arI, dvI, shI, SV.den, obLt, elemAt, obApp, partL, obPart, lowD, highD, mxOk, convL_self, zerosB, List.length_replicate, vln] at *; (try dsimp only [Shp.D, Shp.Ds, Shp.dflt, Shp.dflts] at *); exact rm_2 (by assumption) (by show p = 0 ∨ p2 = 0 ∨ p = p2; omega) h) | ((try dsimp only [Shp.D, Shp.Ds, Shp.dflt] at *); simp only [vem, veq, ne_eq, cmpI, arI, dvI, shI, SV.den, obLt, elemAt, obApp, partL, obPart, lowD, highD, mxOk, convL_self, zerosB, List.length_replicate, vln] at *; (try dsimp only [Shp.D, Shp.Ds, Shp.dflt, Shp.dflts] at *); exact rm_3 (by assumption) (by show p = 0 ∨ p2 = 0 ∨ p = p2; omega) (by assumption) h) | ((try dsimp only [Shp.D, Shp.Ds, Shp.dflt] at *); simp only [vem, veq, ne_eq, cmpI, arI, dvI, shI, SV.den, obLt, elemAt, obApp, partL, obPart, lowD, highD, mxOk, convL_self, zerosB, List.length_replicate, vln] at *; (try dsimp only [Shp.D, Shp.Ds, Shp.dflt, Shp.dflts] at *); exact rm_4 (by assumption) (by show p = 0 ∨ p2 = 0 ∨ p = p2; omega) (by assumption) (by assumption) h) | ((try dsimp only [Shp.D, Shp.Ds, Shp.dflt] at *); simp only [vem, veq, ne_eq, cmpI, arI, dvI, shI, SV.den, obLt, elemAt, obApp, partL, obPart, lowD, highD, mxOk, convL_self, zerosB, List.length_replicate, vln] at *; (try dsimp only [Shp.D, Shp.Ds, Shp.dflt, Shp.dflts] at *); exact rm_5 (by assumption) (by show p = 0 ∨ p2 = 0 ∨ p = p2; omega) (by assumption) (by assumption) (by assumption) h) | ((try dsimp only [Shp.D, Shp.Ds, Shp.dflt] at *); simp only [vem, veq, ne_eq, cmpI, arI, dvI, shI, SV.den, obLt, elemAt, obApp, partL, obPart, lowD, highD, mxOk, convL_self, zerosB, List.length_replicate, vln] at *; (try dsimp only [Shp.D, Shp.Ds, Shp.dflt, Shp.dflts] at *); exact rm_6 (by assumption) (by show p = 0 ∨ p2 = 0 ∨ p = p2; omega) (by assumption) (by assumption) (by assumption) h))
end Go.Proofs.Ytiinlanpinanhaa.V
