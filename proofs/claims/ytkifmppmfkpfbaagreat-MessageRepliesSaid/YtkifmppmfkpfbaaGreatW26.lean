import Derived.Test.YtkifmppmfkpfbaaGreatW24
import Derived.Test.YtkifmppmfkpfbaaGreatW20
import Derived.Test.YtkifmppmfkpfbaaGreatW25
set_option linter.unusedVariables false
set_option linter.unusedSimpArgs false
namespace Go.Proofs.YtkifmppmfkpfbaaGreat.V
open Go.RowKit
section
set_option maxHeartbeats 8000000
set_option maxRecDepth 100000
def panX (B : Prop) : CxE := ⟨191, fun s => (onceE s.heap && hasB1 s.heap 1000 35 && hasB1 s.heap 1064 52) = true ∧ B, fun _ => none, fun _ _ _ _ _ _ _ => False, false⟩
theorem panX_ok (B : Prop) {E : Env} (hE : E.ok) : CxEOk Tryz.prog E (panX B) := ⟨(fun t e h => by cases h), fun l lo hi id args s K _ _ h => h.elim⟩
theorem pcl_fn : DfOk Tryz.prog 130 191 (.slice none 0 0) (.int .i64 4) 191 := by
 refine ⟨⟨_, Tryz.func130, by rfl, by rfl⟩, fun a b w => ?_, fun a b w x y t1 t2 h1 h2 hab => ?_⟩
 ·refine callsDIn_of_wpSIn Tryz.func130 rfl trivial fun c₀ cs hu => ?_
  apply wpSIn_seq
  apply wpSIn_region
  simp [wpOpsSIn, go_sem, recoverD, hu, Tryz.ntmps130, Exit.thenS]
  apply wpSIn_seq
  apply wpSIn_region
  simp [wpOpsSIn, go_sem, Exit.thenS]
  refine wpSIn_cond (t := false) (by simp [Act.eval, Array.replicate]) ?_
  simp only [Bool.false_eq_true, if_false]
  refine wpSIn_of_wpIn rfl (wpIn_skip ?_)
  cases c₀
  simp_all [bodyPostS, results, Tryz.results130]
 ·refine callsDIn_of_wpSIn Tryz.func130 rfl trivial fun c₀ cs hu => ?_
  apply wpSIn_seq
  apply wpSIn_region
  simp [wpOpsSIn, go_sem, recoverD, hu, Tryz.ntmps130, Exit.thenS]
  apply wpSIn_seq
  apply wpSIn_region
  simp [wpOpsSIn, go_sem, Exit.thenS]
  refine wpSIn_cond (t := true) (by simp [Act.eval, Array.replicate]) ?_
  simp only [if_true]
  apply wpSIn_seq
  apply wpSIn_seq
  apply wpSIn_region
  have f1 := free_of_one h1
  have f2 := free_of_one h2
  simp [wpOpsSIn, go_sem, Exit.thenS, h1, h2, f1, f2, Instr.typeAssert]
  apply wpSIn_seq
  apply wpSIn_region
  simp [wpOpsSIn, go_sem, Exit.thenS]
  refine wpSIn_cond (t := false) (by simp [Act.eval, Array.replicate]) ?_
  simp only [Bool.false_eq_true, if_false]
  refine wpSIn_of_wpIn rfl (wpIn_skip ?_)
  apply wpSIn_region
  have hal : Below w.heap.size w (w.alloc (.cells #[] 191 (0, 0))) := (Below.refl _ _).alloc (Nat.le_refl _) _
  have g1 : (w.alloc (.cells #[] 191 (0, 0))).heap[a]? = some (.cells #[x] t1 (0, 0)) := by rw [hal.block _ (lt_of_block h1)]; exact h1
  have g2 : (w.alloc (.cells #[] 191 (0, 0))).heap[b]? = some (.cells #[y] t2 (0, 0)) := by rw [hal.block _ (lt_of_block h2)]; exact h2
  have g3 : ((w.alloc (.cells #[] 191 (0, 0))).setCell ⟨a, 0, none⟩ (.slice none 0 0)).heap[b]? = some (.cells #[y] t2 (0, 0)) := by rw [Below.heap_setCell _ _ _ _ (Ne.symm hab)]; exact g2
  have c1 := cell_of_one g1
  have c2 := cell_of_one g2
  have c3 := cell_of_one g3
  have d1 := free_of_one g1
  have d2 := free_of_one g2
  have d3 := free_of_one g3
  simp [wpOpsSIn, go_sem, c1, c2, c3, d1, d2, d3, bodyPostS, results, Tryz.results130]
def wbC_t : SpecT := lf0 112 (sliSp)
def wbC_i (B : Prop) : SpecT := fun _ => none
def wbC (B : Prop) : Cx := ⟨tt, qt, bt, st, wbC_t, 0, 1000000000000000, wbC_i B, false, panX B, []⟩
theorem wbC_si (B : Prop) {E : Env} (h : E.ok) : SpecsOk Tryz.prog E (panX B) wbC_t (wbC_i B) := ⟨(lf0_ok (.inl (wsl_sp h))), (fun t f h => by cases h)⟩
theorem wbC_x (B : Prop) {E : Env} (h : E.ok) : CxEOk Tryz.prog E (panX B) := panX_ok B h
theorem wbC_from (B : Prop) (lo hi : Nat) (E : Env) (h : E.ok) (h1 : E.lo = lo) (h2 : E.hi = hi) : Cx.ok (Cx.from (wbC B) lo hi) Tryz.prog E := ⟨tt_ok, qt_ok, bt_ok, wbC_si B h, h, h1, h2, mixed_ok, wbC_x B h⟩
def wnmC_t : SpecT := lf0 86 (numSp)
def wnmC_i (B : Prop) : SpecT := lf0 143 (inlSpec (wbC B) Tryz.f143)
def wnmC (B : Prop) : Cx := ⟨tt, qt, bt, st, wnmC_t, 0, 1000000000000000, wnmC_i B, true, panX B, []⟩
theorem wnmC_si (B : Prop) {E : Env} (h : E.ok) : SpecsOk Tryz.prog E (panX B) wnmC_t (wnmC_i B) := ⟨(lf0_ok (.inl (wnum_sp h))), (lf0_ok (inl_ok h (wbC_from B) Tryz.func143 ⟨by rfl, by rfl⟩ (by kernel_rfl)))⟩
theorem wnmC_x (B : Prop) {E : Env} (h : E.ok) : CxEOk Tryz.prog E (panX B) := panX_ok B h
theorem wnmC_from (B : Prop) (lo hi : Nat) (E : Env) (h : E.ok) (h1 : E.lo = lo) (h2 : E.hi = hi) : Cx.ok (Cx.from (wnmC B) lo hi) Tryz.prog E := ⟨tt_ok, qt_ok, bt_ok, wnmC_si B h, h, h1, h2, mixed_ok, wnmC_x B h⟩
def wpC_t : SpecT := fun _ => none
def wpC_i (B : Prop) : SpecT := nd0 143 (lf0 142 (inlSpec (wnmC B) Tryz.f142)) (lf0 143 (inlSpec (wbC B) Tryz.f143))
def wpC (B : Prop) : Cx := ⟨tt, qt, bt, st, wpC_t, 0, 1000000000000000, wpC_i B, true, panX B, []⟩
theorem wpC_si (B : Prop) {E : Env} (h : E.ok) : SpecsOk Tryz.prog E (panX B) wpC_t (wpC_i B) := ⟨(fun t f h => by cases h), (nd0_ok (lf0_ok (inl_ok h (wnmC_from B) Tryz.func142 ⟨by rfl, by rfl⟩ (by kernel_rfl))) (lf0_ok (inl_ok h (wbC_from B) Tryz.func143 ⟨by rfl, by rfl⟩ (by kernel_rfl))))⟩
theorem wpC_x (B : Prop) {E : Env} (h : E.ok) : CxEOk Tryz.prog E (panX B) := panX_ok B h
theorem wpC_from (B : Prop) (lo hi : Nat) (E : Env) (h : E.ok) (h1 : E.lo = lo) (h2 : E.hi = hi) : Cx.ok (Cx.from (wpC B) lo hi) Tryz.prog E := ⟨tt_ok, qt_ok, bt_ok, wpC_si B h, h, h1, h2, mixed_ok, wpC_x B h⟩
def weC_t : SpecT := fun _ => none
def weC_i (B : Prop) : SpecT := fun _ => none
def weC (B : Prop) : Cx := ⟨tt, qt, bt, st, weC_t, 0, 1000000000000000, weC_i B, false, panX B, []⟩
theorem weC_si (B : Prop) {E : Env} (h : E.ok) : SpecsOk Tryz.prog E (panX B) weC_t (weC_i B) := ⟨(fun t f h => by cases h), (fun t f h => by cases h)⟩
theorem weC_x (B : Prop) {E : Env} (h : E.ok) : CxEOk Tryz.prog E (panX B) := panX_ok B h
theorem weC_from (B : Prop) (lo hi : Nat) (E : Env) (h : E.ok) (h1 : E.lo = lo) (h2 : E.hi = hi) : Cx.ok (Cx.from (weC B) lo hi) Tryz.prog E := ⟨tt_ok, qt_ok, bt_ok, weC_si B h, h, h1, h2, mixed_ok, weC_x B h⟩
def wtC_t : SpecT := fun _ => none
def wtC_i (B : Prop) : SpecT := nd0 142 (nd0 141 (lf0 132 (inlSpec (weC B) Tryz.f132)) (lf0 141 (inlSpec (wpC B) Tryz.f141))) (nd0 143 (lf0 142 (inlSpec (wnmC B) Tryz.f142)) (lf0 143 (inlSpec (wbC B) Tryz.f143)))
def wtC (B : Prop) : Cx := ⟨tt, qt, bt, st, wtC_t, 0, 1000000000000000, wtC_i B, true, panX B, []⟩
theorem wtC_si (B : Prop) {E : Env} (h : E.ok) : SpecsOk Tryz.prog E (panX B) wtC_t (wtC_i B) := ⟨(fun t f h => by cases h), (nd0_ok (nd0_ok (lf0_ok (inl_ok h (weC_from B) Tryz.func132 ⟨by rfl, by rfl⟩ (by kernel_rfl))) (lf0_ok (inl_ok h (wpC_from B) Tryz.func141 ⟨by rfl, by rfl⟩ (by kernel_rfl)))) (nd0_ok (lf0_ok (inl_ok h (wnmC_from B) Tryz.func142 ⟨by rfl, by rfl⟩ (by kernel_rfl))) (lf0_ok (inl_ok h (wbC_from B) Tryz.func143 ⟨by rfl, by rfl⟩ (by kernel_rfl)))))⟩
theorem wtC_x (B : Prop) {E : Env} (h : E.ok) : CxEOk Tryz.prog E (panX B) := panX_ok B h
theorem wtC_from (B : Prop) (lo hi : Nat) (E : Env) (h : E.ok) (h1 : E.lo = lo) (h2 : E.hi = hi) : Cx.ok (Cx.from (wtC B) lo hi) Tryz.prog E := ⟨tt_ok, qt_ok, bt_ok, wtC_si B h, h, h1, h2, mixed_ok, wtC_x B h⟩
def woC_t : SpecT := fun _ => none
def woC_i (B : Prop) : SpecT := nd0 142 (nd0 141 (lf0 132 (inlSpec (weC B) Tryz.f132)) (lf0 141 (inlSpec (wpC B) Tryz.f141))) (nd0 143 (lf0 142 (inlSpec (wnmC B) Tryz.f142)) (nd0 144 (lf0 143 (inlSpec (wbC B) Tryz.f143)) (lf0 144 (inlSpec (wtC B) Tryz.f144))))
def woC (B : Prop) : Cx := ⟨tt, qt, bt, st, woC_t, 0, 1000000000000000, woC_i B, true, panX B, []⟩
theorem woC_si (B : Prop) {E : Env} (h : E.ok) : SpecsOk Tryz.prog E (panX B) woC_t (woC_i B) := ⟨(fun t f h => by cases h), (nd0_ok (nd0_ok (lf0_ok (inl_ok h (weC_from B) Tryz.func132 ⟨by rfl, by rfl⟩ (by kernel_rfl))) (lf0_ok (inl_ok h (wpC_from B) Tryz.func141 ⟨by rfl, by rfl⟩ (by kernel_rfl)))) (nd0_ok (lf0_ok (inl_ok h (wnmC_from B) Tryz.func142 ⟨by rfl, by rfl⟩ (by kernel_rfl))) (nd0_ok (lf0_ok (inl_ok h (wbC_from B) Tryz.func143 ⟨by rfl, by rfl⟩ (by kernel_rfl))) (lf0_ok (inl_ok h (wtC_from B) Tryz.func144 ⟨by rfl, by rfl⟩ (by kernel_rfl))))))⟩
theorem woC_x (B : Prop) {E : Env} (h : E.ok) : CxEOk Tryz.prog E (panX B) := panX_ok B h
theorem woC_from (B : Prop) (lo hi : Nat) (E : Env) (h : E.ok) (h1 : E.lo = lo) (h2 : E.hi = hi) : Cx.ok (Cx.from (woC B) lo hi) Tryz.prog E := ⟨tt_ok, qt_ok, bt_ok, woC_si B h, h, h1, h2, mixed_ok, woC_x B h⟩
def wlC_t : SpecT := lf0 124 (chkS)
def wlC_i (B : Prop) : SpecT := nd0 132 (lf0 131 (inlSpec (woC B) Tryz.f131)) (lf0 132 (inlSpec (weC B) Tryz.f132))
def wlC (B : Prop) : Cx := ⟨tt, qt, bt, st, wlC_t, 0, 1000000000000000, wlC_i B, true, panX B, []⟩
theorem wlC_si (B : Prop) {E : Env} (h : E.ok) : SpecsOk Tryz.prog E (panX B) wlC_t (wlC_i B) := ⟨(lf0_ok (.inl (pck_sp h))), (nd0_ok (lf0_ok (inl_ok h (woC_from B) Tryz.func131 ⟨by rfl, by rfl⟩ (by kernel_rfl))) (lf0_ok (inl_ok h (weC_from B) Tryz.func132 ⟨by rfl, by rfl⟩ (by kernel_rfl))))⟩
theorem wlC_x (B : Prop) {E : Env} (h : E.ok) : CxEOk Tryz.prog E (panX B) := panX_ok B h
theorem wlC_from (B : Prop) (lo hi : Nat) (E : Env) (h : E.ok) (h1 : E.lo = lo) (h2 : E.hi = hi) : Cx.ok (Cx.from (wlC B) lo hi) Tryz.prog E := ⟨tt_ok, qt_ok, bt_ok, wlC_si B h, h, h1, h2, mixed_ok, wlC_x B h⟩
def wfC_t : SpecT := fun _ => none
def wfC : Cx := ⟨tt, qt, bt, st, wfC_t, 0, 1000000000000000, fun _ => none, false, CxE.no, []⟩
theorem wfC_si {E : Env} (h : E.ok) : SpecsOk Tryz.prog E (CxE.no) wfC_t (fun _ => none) := ⟨(fun t f h => by cases h), noI_ok _ _ _⟩
theorem wfC_x {E : Env} (h : E.ok) : CxEOk Tryz.prog E (CxE.no) := CxE.no_ok _ _
theorem wfC_cx (E : Env) (h : E.ok) (h1 : E.lo = 0) (h2 : E.hi = 1000000000000000) : Cx.ok wfC Tryz.prog E := ⟨tt_ok, qt_ok, bt_ok, wfC_si h, h, h1, h2, mixed_ok, wfC_x h⟩
def parP (b : List UInt8) : List PrT × Int := if b.length = 0 then ([], 1) else match prsP b with
 | none => ([], 4)
 | some l => if chkF l = 0 then (l, 0) else ([], chkF l)
structure BadP (b : List UInt8) : Prop where
 eq : parP b = ([], 4)
def goP (acc : List PrT) (d : List UInt8) : Bool → Option (List PrT)
 | true => (prsP d).map (acc ++ ·)
 | false => if d.length = 0 then some acc else none
theorem bad_go {b : List UInt8} (h0 : ¬ (b.length : Int) = 0) {acc : List PrT} {d : List UInt8} {m : Bool} (hP : goP acc d m = prsP b) (h : goP acc d m = none) : BadP b := by
 refine ⟨?_⟩
 unfold parP
 rw [if_neg (by omega), ← hP, h]
theorem bad_end {b : List UInt8} (h0 : ¬ (b.length : Int) = 0) {acc : List PrT} {d : List UInt8} (hP : goP acc d false = prsP b) (h : ¬ d.length = 0) : BadP b := bad_go h0 hP (by simp only [goP]; rw [if_neg h])
theorem end_par {b : List UInt8} (h0 : ¬ (b.length : Int) = 0) {acc : List PrT} {d : List UInt8} (hP : goP acc d false = prsP b) (h : d.length = 0) : parP b = if chkF acc = 0 then (acc, 0) else ([], chkF acc) := by
 unfold parP
 rw [if_neg (by omega), ← hP]
 simp only [goP]
 rw [if_pos h]
theorem bad_pr {b : List UInt8} (h0 : ¬ (b.length : Int) = 0) {acc : List PrT} {d : List UInt8} (hP : goP acc d true = prsP b) (h : ¬ PrC d) : BadP b := by
 refine bad_go h0 hP ?_
 unfold goP
 rw [prsP_eq]
 unfold prP
 rw [if_neg h]
 rfl
theorem step_pr {b : List UInt8} {acc : List PrT} {d : List UInt8} (hP : goP acc d true = prsP b) (hc : PrC d) {ts : List TrT} (ht : trsP (numF (prI d) 3 1).1.toNat (prT d) = some ts) :
    goP (acc ++ [((numF (prI d) 0 1).1, (numF (prI d) 1 1).1, prSpi d, ts, ())]) (prR d) (prM d) = prsP b := by
 rw [← hP]
 have hx : prP d = some ((numF (prI d) 0 1).1, (numF (prI d) 1 1).1, prSpi d, ts, ()) := by
  unfold prP
  rw [if_pos hc, ht]
  rfl
 simp only [goP]
 rw [prsP_eq d, hx]
 cases prM d with
 | true =>
   simp only [goP]
   cases prsP (prR d) with
   | none => rfl
   | some l => simp
 | false =>
   simp only [goP]
   by_cases h : (prR d).length = 0
   ·rw [if_pos h, if_pos h]; simp
   ·rw [if_neg h, if_neg h]; rfl
theorem prR_eq {d : List UInt8} (hc : PrC d) : List.drop (4 + ((numF d 2 2).1 - 4).toNat) d = prR d := by
 obtain ⟨_, _, h, _⟩ := hc
 unfold prR
 rw [show 4 + ((numF d 2 2).1 - 4).toNat = (numF d 2 2).1.toNat by omega]
theorem prM_eq (d : List UInt8) : ((numF d 0 1).1 != 0) = prM d := by
 unfold prM
 rw [Bool.eq_iff_iff]
 simp
theorem prM_eq2 (d : List UInt8) : ((numF d 0 1).1 != 0) = trM d := by
 unfold trM
 rw [Bool.eq_iff_iff]
 simp
theorem trs_end {c z : Int} {d0 d : List UInt8} {acc : List TrT} (h : (trsP (c - z).toNat d).map (acc ++ ·) = trsP c.toNat d0) (hz : c ≤ z) (hd : d.length = 0) : trsP c.toNat d0 = some acc := by
 rw [← h, show (c - z).toNat = 0 by omega]
 unfold trsP
 rw [if_pos hd]
 simp
theorem trs_no {c z : Int} {d0 d : List UInt8} {acc : List TrT} (h : (trsP (c - z).toNat d).map (acc ++ ·) = trsP c.toNat d0) (hz : c ≤ z) (hd : ¬ d.length = 0) : trsP c.toNat d0 = none := by
 rw [← h, show (c - z).toNat = 0 by omega]
 unfold trsP
 rw [if_neg hd]
 rfl
theorem bad_ts {b : List UInt8} (h0 : ¬ (b.length : Int) = 0) {acc : List PrT} {d : List UInt8} (hP : goP acc d true = prsP b) (h : trsP (numF (prI d) 3 1).1.toNat (prT d) = none) : BadP b := by
 refine bad_go h0 hP ?_
 simp only [goP]
 rw [prsP_eq]
 have : prP d = none := by
  unfold prP
  rw [h]
  split <;> rfl
 rw [this]
 rfl
theorem trs_bad {c z : Int} {d0 d : List UInt8} {acc : List TrT} (h : (trsP (c - z).toNat d).map (acc ++ ·) = trsP c.toNat d0) (hz : z < c) (hd : ¬ (TrC d ∧ trM d = decide (0 < (c - z).toNat - 1))) : trsP c.toNat d0 = none := by
 rw [← h, show (c - z).toNat = ((c - z).toNat - 1) + 1 by omega]
 unfold trsP
 rw [if_neg hd]
 rfl
theorem trs_mis {c z : Int} {d0 d : List UInt8} {acc : List TrT} (h : (trsP (c - z).toNat d).map (acc ++ ·) = trsP c.toNat d0) (h0 : 0 ≤ z) (hz : z < c) (h5 : c < 256)
    (hm : (((numF d 0 1).1 != 0) == decide (z < (c - 1 + 9223372036854775808) % 18446744073709551616 - 9223372036854775808)) = false) : trsP c.toNat d0 = none := by
 refine trs_bad h hz fun hc => ?_
 have h1 := hc.2
 rw [← prM_eq2] at h1
 rw [h1, show (c - 1 + 9223372036854775808) % 18446744073709551616 - 9223372036854775808 = c - 1 by omega] at hm
 rw [show decide (z < c - 1) = decide (0 < (c - z).toNat - 1) by rw [decide_eq_decide]; omega] at hm
 simp at hm
theorem step_tr {c z zq : Int} {d0 d dq : List UInt8} {acc aq : List TrT} {v : TrT} (h : (trsP (c - z).toNat d).map (acc ++ ·) = trsP c.toNat d0) (h0 : 0 ≤ z) (hz : z < c) (h5 : c < 256) (hc : TrC d)
    (hm : (((numF d 0 1).1 != 0) == decide (z < (c - 1 + 9223372036854775808) % 18446744073709551616 - 9223372036854775808)) = true) (hl : (acc.length : Int) = z)
    (qz : (z + 1 + 9223372036854775808) % 18446744073709551616 - 9223372036854775808 = zq) (hv : trV d = v) (qa : acc ++ [v] = aq) (qd : List.drop (4 + ((numF d 2 2).1 - 4).toNat) d = dq) :
    (0 ≤ zq ∧ zq ≤ c ∧ True ∧ True ∧ (trsP (c - zq).toNat dq).map (aq ++ ·) = trsP c.toNat d0 ∧ (aq.length : Int) = zq) ∧ (c - zq).toNat < (c - z).toNat := by
 have ez : zq = z + 1 := by omega
 have h2 := hc.2.2.1
 have ed : dq = trR d := by
  rw [← qd]
  unfold trR
  rw [show 4 + ((numF d 2 2).1 - 4).toNat = (numF d 2 2).1.toNat by omega]
 have hm2 : trM d = decide (0 < (c - zq).toNat) := by
  rw [← prM_eq2]
  have hm := eq_of_beq hm
  rw [hm, decide_eq_decide]
  omega
 subst qa hv
 refine ⟨⟨by omega, by omega, trivial, trivial, ?_, ?_⟩, by omega⟩
 ·rw [← h, show (c - z).toNat = (c - zq).toNat + 1 by omega]
  conv => rhs; unfold trsP
  rw [if_pos ⟨hc, hm2⟩, ed]
  cases trsP (c - zq).toNat (trR d) with
  | none => rfl
  | some l => simp
 ·simp only [List.length_append, List.length_cons, List.length_nil]; omega
theorem step_fin {b : List UInt8} {acc aq : List PrT} {d dq : List UInt8} {m : Bool} {z : Int} {ac : List TrT} {rest : List UInt8} (hP : goP acc d true = prsP b) (hL : 8 * acc.length + d.length ≤ b.length) (hc : PrC d)
    (h : (trsP ((numF (prI d) 3 1).1 - z).toNat rest).map (ac ++ ·) = trsP (numF (prI d) 3 1).1.toNat (prT d)) (hz : (numF (prI d) 3 1).1 ≤ z) (hr : rest.length = 0)
    (qa : acc ++ [((numF (prI d) 0 1).1, (numF (prI d) 1 1).1, [] ++ cutF (List.drop 4 (prI d)) 0 (numF (prI d) 2 1).1, ac, PUnit.unit)] = aq) (qm : ((numF d 0 1).1 != 0) = m) (qd : List.drop (4 + ((numF d 2 2).1 - 4).toNat) d = dq) :
    (goP aq dq m = prsP b ∧ 8 * aq.length + dq.length ≤ b.length) ∧ dq.length + m.toNat < d.length + true.toNat := by
 have e1 := step_pr hP hc (trs_end h hz hr)
 rw [prR_eq hc] at qd
 rw [prM_eq] at qm
 have hl := prC_len hc
 subst qa qm qd
 refine ⟨⟨e1, ?_⟩, ?_⟩
 ·simp only [List.length_append, List.length_cons, List.length_nil]; omega
 ·cases prM d <;> simp <;> omega
theorem spi_len (d : List UInt8) : (cutF ((prI d).drop 4) 0 (numF (prI d) 2 1).1).length ≤ 255 := by
 have h := n1 (prI d) 2
 by_cases hc : 0 ≤ (numF (prI d) 2 1).1 ∧ (numF (prI d) 2 1).1 ≤ ((prI d).drop 4).length
 ·rw [len_cut hc]; omega
 ·rw [cutF_no hc]; simp
theorem pps_fn : hasFn Tryz.prog 117 := ⟨_, Tryz.func117, by rfl, by rfl⟩
abbrev ppSp : Spec := fnSpecT [.sl .byte] [none] [.sl prE, .int .i64] [.own 132] [] (fun x => x.1.length ≤ 1073741824) fun x y => (y.1, y.2.1) = parP x.1
theorem pps_sp {E : Env} (hE : E.ok) : SpecOk Tryz.prog E 117 ppSp := by
 refine spec_of_vcTD (C := wfC) (C2 := wlC) (g := 130) (B1 := 1000) (B2 := 1064) (t1 := 35) (t2 := 52) (v1 := .val (.slice none 0 0)) (v2 := .int .i64 (.c 4)) (bad := fun (x : Shp.Ds [.sl .byte]) => BadP x.1) pps_fn Tryz.func117 (by kernel_rfl) pcl_fn (fun _ => rfl) (fun _ => by simp only [SV.den]) (fun _ => by simp only [SV.den, den_c]) rfl rfl rfl rfl (fun _ _ h => h) (fun x _ hb => ?_) wfC_cx wlC_from (fun x hl hx => ?_) hE
 ·intro H G n
  unfold relitK
  dsimp only
  generalize n + 50000 = m
  cbv
  refine Fin.mk ?_
  ((try dsimp only [Shp.D, Shp.Ds, Shp.dflt] at *); simp only [vla, vem, veq, vln] at *; (try dsimp only [Shp.D, Shp.Ds, Shp.dflt, Shp.dflts] at *))
  exact hb.eq.symm
 ·obtain ⟨bb, ⟨⟩⟩ := x
  have hbb : bb.length ≤ 1073741824 := hx
  cbv
  (repeat' (first|((with_reducible apply And.intro <;> intro h) <;> (first|(with_reducible first|exact (tf h ‹_›).elim|exact (tf ‹_› h).elim)|cbv)) | ((with_reducible show JoinT (fun s K => vc _ (Code.region _ _ true) s K) _ _ _ _ _ _); (with_reducible apply JoinT.mg2); (focus (cbv; (repeat' (first|((with_reducible apply And.intro <;> intro h) <;> (first|(with_reducible first|exact (tf h ‹_›).elim|exact (tf ‹_› h).elim)|cbv))|((with_reducible first|apply Cb.mk|apply Lz.mk|apply JoinT.left|(apply AllT.mk;intro x hx));cbv)|((with_reducible refine Ob.mk (fun _ => ?_) ?_);rotate_left 1)|(with_reducible first|refine Mg.mk (Exists.intro ?_ (And.intro ?_ ?_))|rfl|apply Fin.mk|exact True.intro|apply And.intro))); (all_goals (try (have du : Unit := (); have dv : Unit := (); first | exact Goes.self (Ex2.mk ⟨dv, du, trivial, trivial, rfl⟩) | exact Goes.self (Ex2.mk ⟨x, du, hx, trivial, rfl⟩) | (rename_i xa hxa; exact Goes.self (Ex2.mk ⟨xa, x, hxa, hx, rfl⟩))))); (all_goals (fail_if_success (with_reducible first | show Goes _ _ _ _ | show (∃ _, unr _ _ _ _ _ _)))))))|((with_reducible first|apply Cb.mk|apply Lz.mk|apply JoinT.left|(apply AllT.mk;intro x hx));cbv)|((with_reducible refine Ob.mk (fun _ => ?_) ?_);rotate_left 1)|(with_reducible first|refine Mg.mk (Exists.intro ?_ (And.intro ?_ ?_))|rfl|apply Fin.mk|exact True.intro|apply And.intro)))
  all_goals first|(with_reducible first|show (∃ _, unr _ _ _ _ _ _)|show UnrI _ _ _ _ _|show Goes _ _ _ _|show JoinT _ _ _ _ _ _ _)|((try ((try dsimp only [Shp.D, Shp.Ds, Shp.dflt] at *); simp only [vla, vem, veq, vln] at *; (try dsimp only [Shp.D, Shp.Ds, Shp.dflt, Shp.dflts] at *); first | done | omega | skip)))
  ·unfold parP; rw [if_pos (by omega)]
  ·have h0 : ¬ (bb.length : Int) = 0 := by ((try dsimp only [Shp.D, Shp.Ds, Shp.dflt] at *); simp only [vla, vem, veq, vln] at *; (try dsimp only [Shp.D, Shp.Ds, Shp.dflt, Shp.dflts] at *); exact h)
   with_reducible refine loop_hv [(68096, 900000, 132, prE), (6500864, 910000, 5, .byte)] (rangeN 6 27) [1000, 101512] [900000, 910000] (fun z b t y => goP (y 900000 prE) (y 910000 .byte) (b 5) = prsP bb ∧ 8 * (y 900000 prE).length + (y 910000 .byte).length ≤ bb.length) (fun z b t y => (y 910000 .byte).length + (b 5).toNat) (by cbv) (by cbv) ?_ ?_ (fun z1 b1 t1 u1 y1 R1 hP1 hR1 => ?_)
   ·exact EndOk.au
   ·intro zq bq tq yq hUq
    have qb5 := hUq.b 5
    have qy900000 := hUq.y 900000 (prE)
    have qy910000 := hUq.y 910000 (.byte)
    cbv at qb5 qy900000 qy910000
    replace qb5 := qb5.eq
    replace qy900000 := qy900000.eq
    replace qy910000 := qy910000.eq
    simp only [atI, atB, atT, atY, convL_self, vem, veq, ne_eq, cmpI, arI, dvI, shI, SV.den] at qb5 qy900000 qy910000
    clear hUq
    try dsimp only [Shp.D, Shp.Ds, Shp.dflt] at *
    try simp only [vla, vem, veq] at *
    rw [← qb5, ← qy900000, ← qy910000]
    refine ⟨?_, by simp⟩
    unfold goP
    cases prsP bb <;> simp
   obtain ⟨hP1, hL1⟩ := hP1
   have e1 := n1 (y1 910000 .byte) 0
   have e2 := n2 (y1 910000 .byte) 2
   have e3 := n1 (prI (y1 910000 .byte)) 2
   have e4 := spi_len (y1 910000 .byte)
   have e5 := n1 (prI (y1 910000 .byte)) 3
   cbv
   (repeat' (first|((with_reducible apply And.intro <;> intro h) <;> (first|(with_reducible first|exact (tf h ‹_›).elim|exact (tf ‹_› h).elim)|cbv)) | ((with_reducible first | refine Cb.mk ?_ | refine Lz.mk ?_ | (apply AllT.mk; intro x hx)); cbv) | ((with_reducible refine Ob.mk (fun _ => ?_) ?_); rotate_left 1) | (with_reducible first | refine Mg.mk (Exists.intro ?_ (And.intro ?_ ?_)) | rfl | refine Fin.mk ?_ | exact True.intro | refine And.intro ?_ ?_)))
   with_reducible refine JoinT.left ?_
   cbv
   (repeat' (first|((with_reducible apply And.intro <;> intro h) <;> (first|(with_reducible first|exact (tf h ‹_›).elim|exact (tf ‹_› h).elim)|cbv)) | ((with_reducible first | refine Cb.mk ?_ | refine Lz.mk ?_ | (apply AllT.mk; intro x hx)); cbv) | ((with_reducible refine Ob.mk (fun _ => ?_) ?_); rotate_left 1) | (with_reducible first | refine Mg.mk (Exists.intro ?_ (And.intro ?_ ?_)) | rfl | refine Fin.mk ?_ | exact True.intro | refine And.intro ?_ ?_)))
   with_reducible refine JoinT.left ?_
   cbv
   (repeat' (first|((with_reducible apply And.intro <;> intro h) <;> (first|(with_reducible first|exact (tf h ‹_›).elim|exact (tf ‹_› h).elim)|cbv)) | ((with_reducible first | refine Cb.mk ?_ | refine Lz.mk ?_ | (apply AllT.mk; intro x hx)); cbv) | ((with_reducible refine Ob.mk (fun _ => ?_) ?_); rotate_left 1) | (with_reducible first | refine Mg.mk (Exists.intro ?_ (And.intro ?_ ?_)) | rfl | refine Fin.mk ?_ | exact True.intro | refine And.intro ?_ ?_)))
   all_goals first|(with_reducible first|show (∃ _, unr _ _ _ _ _ _)|show UnrI _ _ _ _ _|show Goes _ _ _ _|show JoinT _ _ _ _ _ _ _)|(((try dsimp only [Shp.D, Shp.Ds, Shp.dflt] at *); simp only [vla, vem, veq, vln] at *; (try dsimp only [Shp.D, Shp.Ds, Shp.dflt, Shp.dflts] at *); first | done | omega | ((try simp only [Int.toNat_natCast, List.length_drop, Nat.sub_sub, take_rest, List.drop_drop, List.drop_zero, Int.reduceToNat, Nat.reduceAdd, Nat.sub_zero] at *); (try simp_all only [numF_cut, numF_drop, nW1, nW2, nW4, c1, c2, c3, c4, c6, c8, prI_fold, Bool.not_eq_false', Bool.not_eq_true', ok_i, no_i, not_true_eq_false, not_false_eq_true]); (try simp only [ok_iff, no_iff, List.length_drop] at *); first | done | omega | (refine ⟨?_, ?_, ?_, trivial⟩ <;> omega; done) | (refine ⟨trivial, ?_, ?_, trivial⟩ <;> omega; done) | skip)))
   all_goals (try (with_reducible show BadP _; first | exact bad_end h0 hP1 (by omega) | (refine bad_pr h0 hP1 ?_; unfold PrC; omega)))
   rotate_right 1
   ·have hm : b1 5 = false := by ((try dsimp only [Shp.D, Shp.Ds, Shp.dflt] at *); simp only [vla, vem, veq, vln] at *; (try dsimp only [Shp.D, Shp.Ds, Shp.dflt, Shp.dflts] at *); assumption)
    rw [hm] at hP1
    cbv
    (repeat' (first|((with_reducible apply And.intro <;> intro h) <;> (first|(with_reducible first|exact (tf h ‹_›).elim|exact (tf ‹_› h).elim)|cbv)) | ((with_reducible show JoinT (fun s K => vc _ (Code.region _ _ true) s K) _ _ _ _ _ _); (with_reducible apply JoinT.mg2); (focus (cbv; (repeat' (first|((with_reducible apply And.intro <;> intro h) <;> (first|(with_reducible first|exact (tf h ‹_›).elim|exact (tf ‹_› h).elim)|cbv))|((with_reducible first|apply Cb.mk|apply Lz.mk|apply JoinT.left|(apply AllT.mk;intro x hx));cbv)|((with_reducible refine Ob.mk (fun _ => ?_) ?_);rotate_left 1)|(with_reducible first|refine Mg.mk (Exists.intro ?_ (And.intro ?_ ?_))|rfl|apply Fin.mk|exact True.intro|apply And.intro))); (all_goals (try (have du : Unit := (); have dv : Unit := (); first | exact Goes.self (Ex2.mk ⟨dv, du, trivial, trivial, rfl⟩) | exact Goes.self (Ex2.mk ⟨x, du, hx, trivial, rfl⟩) | (rename_i xa hxa; exact Goes.self (Ex2.mk ⟨xa, x, hxa, hx, rfl⟩))))); (all_goals (fail_if_success (with_reducible first | show Goes _ _ _ _ | show (∃ _, unr _ _ _ _ _ _)))))))|((with_reducible first|apply Cb.mk|apply Lz.mk|apply JoinT.left|(apply AllT.mk;intro x hx));cbv)|((with_reducible refine Ob.mk (fun _ => ?_) ?_);rotate_left 1)|(with_reducible first|refine Mg.mk (Exists.intro ?_ (And.intro ?_ ?_))|rfl|apply Fin.mk|exact True.intro|apply And.intro)))
    all_goals first|(with_reducible first|show (∃ _, unr _ _ _ _ _ _)|show UnrI _ _ _ _ _|show Goes _ _ _ _|show JoinT _ _ _ _ _ _ _)|(((try dsimp only [Shp.D, Shp.Ds, Shp.dflt] at *); simp only [vla, vem, veq, vln] at *; (try dsimp only [Shp.D, Shp.Ds, Shp.dflt, Shp.dflts] at *); first | done | omega | ((try simp only [Int.toNat_natCast, List.length_drop, Nat.sub_sub, take_rest, List.drop_drop, List.drop_zero, Int.reduceToNat, Nat.reduceAdd, Nat.sub_zero] at *); (try simp_all only [numF_cut, numF_drop, nW1, nW2, nW4, c1, c2, c3, c4, c6, c8, prI_fold, Bool.not_eq_false', Bool.not_eq_true', ok_i, no_i, not_true_eq_false, not_false_eq_true]); (try simp only [ok_iff, no_iff, List.length_drop] at *); first | done | omega | (refine ⟨?_, ?_, ?_, trivial⟩ <;> omega; done) | (refine ⟨trivial, ?_, ?_, trivial⟩ <;> omega; done) | skip)))
    all_goals first
     | (rw [end_par h0 hP1 (by omega), if_pos (by assumption)]; done)
     | (rw [end_par h0 hP1 (by omega), if_neg (by assumption)]; done)
   have hm : b1 5 = true := by ((try dsimp only [Shp.D, Shp.Ds, Shp.dflt] at *); simp only [vla, vem, veq, vln] at *; (try dsimp only [Shp.D, Shp.Ds, Shp.dflt, Shp.dflts] at *); assumption)
   rw [hm] at hP1
   with_reducible refine join_hv (rangeN 10 9) [] [] [] (fun z b t y => (numF (y1 910000 .byte) 0 1).1 = 0 ∨ (numF (y1 910000 .byte) 0 1).1 = 2) (by cbv) ?_ ?_
   ·intro R2 hR2
    cbv
    (repeat' (first|((with_reducible apply And.intro <;> intro h) <;> (first|(with_reducible first|exact (tf h ‹_›).elim|exact (tf ‹_› h).elim)|cbv))|((with_reducible first|apply Cb.mk|apply Lz.mk|apply JoinT.left|(apply AllT.mk;intro x hx));cbv)|((with_reducible refine Ob.mk (fun _ => ?_) ?_);rotate_left 1)|(with_reducible first|refine Mg.mk (Exists.intro ?_ (And.intro ?_ ?_))|rfl|apply Fin.mk|exact True.intro|apply And.intro)))
    all_goals first|(with_reducible first|show (∃ _, unr _ _ _ _ _ _)|show UnrI _ _ _ _ _|show Goes _ _ _ _|show JoinT _ _ _ _ _ _ _)|(((try dsimp only [Shp.D, Shp.Ds, Shp.dflt] at *); simp only [vla, vem, veq, vln] at *; (try dsimp only [Shp.D, Shp.Ds, Shp.dflt, Shp.dflts] at *); first | done | omega | ((try simp only [Int.toNat_natCast, List.length_drop, Nat.sub_sub, take_rest, List.drop_drop, List.drop_zero, Int.reduceToNat, Nat.reduceAdd, Nat.sub_zero] at *); (try simp_all only [numF_cut, numF_drop, nW1, nW2, nW4, c1, c2, c3, c4, c6, c8, prI_fold, Bool.not_eq_false', Bool.not_eq_true', ok_i, no_i, not_true_eq_false, not_false_eq_true]); (try simp only [ok_iff, no_iff, List.length_drop] at *); first | done | omega | (refine ⟨?_, ?_, ?_, trivial⟩ <;> omega; done) | (refine ⟨trivial, ?_, ?_, trivial⟩ <;> omega; done) | skip)))
    all_goals first
     | ((with_reducible show BadP _); refine bad_pr h0 hP1 ?_; unfold PrC; omega)
     | (((with_reducible refine hR2 _ ?_ (fun zq bq tq yq hUq => ?_)); (focus (exact EndOk.au)); (clear hUq hR2); (try dsimp only [Shp.D, Shp.Ds, Shp.dflt] at *); (try simp only [vem, veq, ne_eq, cmpI, arI, dvI, shI, SV.den, elemAt, convL_self] at *); (try dsimp only [Shp.D, Shp.Ds, Shp.dflt, Shp.dflts] at *)); ((try ((try dsimp only [Shp.D, Shp.Ds, Shp.dflt] at *); simp only [vla, vem, veq, vln] at *; (try dsimp only [Shp.D, Shp.Ds, Shp.dflt, Shp.dflts] at *))); (try simp only [Int.toNat_natCast, List.length_drop, Nat.sub_sub, take_rest, List.drop_drop, List.drop_zero, Int.reduceToNat, Nat.reduceAdd, Nat.sub_zero] at *); (try simp_all only [numF_cut, numF_drop, nW1, nW2, nW4, c1, c2, c3, c4, c6, c8, prI_fold, Bool.not_eq_false', Bool.not_eq_true', ok_i, no_i, not_true_eq_false, not_false_eq_true]); (try simp only [ok_iff, no_iff, List.length_drop] at *); first | done | omega | (refine ⟨?_, ?_, ?_, trivial⟩ <;> omega; done) | (refine ⟨trivial, ?_, ?_, trivial⟩ <;> omega; done) | skip))
    all_goals simp
   intro z2 b2 t2 u2 y2 hP2
   cbv
   (repeat' (first|((with_reducible apply And.intro <;> intro h) <;> (first|(with_reducible first|exact (tf h ‹_›).elim|exact (tf ‹_› h).elim)|cbv)) | ((with_reducible show JoinT (fun s K => vc _ (Code.region _ _ true) s K) _ _ _ _ _ _); (with_reducible apply JoinT.mg2); (focus (cbv; (repeat' (first|((with_reducible apply And.intro <;> intro h) <;> (first|(with_reducible first|exact (tf h ‹_›).elim|exact (tf ‹_› h).elim)|cbv))|((with_reducible first|apply Cb.mk|apply Lz.mk|apply JoinT.left|(apply AllT.mk;intro x hx));cbv)|((with_reducible refine Ob.mk (fun _ => ?_) ?_);rotate_left 1)|(with_reducible first|refine Mg.mk (Exists.intro ?_ (And.intro ?_ ?_))|rfl|apply Fin.mk|exact True.intro|apply And.intro))); (all_goals (try (have du : Unit := (); have dv : Unit := (); first | exact Goes.self (Ex2.mk ⟨dv, du, trivial, trivial, rfl⟩) | exact Goes.self (Ex2.mk ⟨x, du, hx, trivial, rfl⟩) | (rename_i xa hxa; exact Goes.self (Ex2.mk ⟨xa, x, hxa, hx, rfl⟩))))); (all_goals (fail_if_success (with_reducible first | show Goes _ _ _ _ | show (∃ _, unr _ _ _ _ _ _)))))))|((with_reducible first|apply Cb.mk|apply Lz.mk|apply JoinT.left|(apply AllT.mk;intro x hx));cbv)|((with_reducible refine Ob.mk (fun _ => ?_) ?_);rotate_left 1)|(with_reducible first|refine Mg.mk (Exists.intro ?_ (And.intro ?_ ?_))|rfl|apply Fin.mk|exact True.intro|apply And.intro)))
   all_goals first|(with_reducible first|show (∃ _, unr _ _ _ _ _ _)|show UnrI _ _ _ _ _|show Goes _ _ _ _|show JoinT _ _ _ _ _ _ _)|(((try dsimp only [Shp.D, Shp.Ds, Shp.dflt] at *); simp only [vla, vem, veq, vln] at *; (try dsimp only [Shp.D, Shp.Ds, Shp.dflt, Shp.dflts] at *); first | done | omega | ((try simp only [Int.toNat_natCast, List.length_drop, Nat.sub_sub, take_rest, List.drop_drop, List.drop_zero, Int.reduceToNat, Nat.reduceAdd, Nat.sub_zero] at *); (try simp_all only [numF_cut, numF_drop, nW1, nW2, nW4, c1, c2, c3, c4, c6, c8, prI_fold, Bool.not_eq_false', Bool.not_eq_true', ok_i, no_i, not_true_eq_false, not_false_eq_true]); (try simp only [ok_iff, no_iff, List.length_drop] at *); first | done | omega | (refine ⟨?_, ?_, ?_, trivial⟩ <;> omega; done) | (refine ⟨trivial, ?_, ?_, trivial⟩ <;> omega; done) | skip)))
   all_goals (try (with_reducible show BadP _; refine bad_pr h0 hP1 ?_; unfold PrC; omega))
   with_reducible refine loop_hv [(136031299, 3900000, 135, trE), (110087232, 3910000, 5, .byte)] (9 :: 10 :: 11 :: rangeN 35 24) [2125425, 1720049] [3900000, 3910000] (fun z b t y => 0 ≤ z 34 ∧ z 34 ≤ (numF (prI (y1 910000 .byte)) 3 1).1 ∧ z 136031296 = (numF (prI (y1 910000 .byte)) 0 1).1 ∧ z 136031297 = (numF (prI (y1 910000 .byte)) 1 1).1 ∧ (trsP ((numF (prI (y1 910000 .byte)) 3 1).1 - z 34).toNat (y 3910000 .byte)).map (y 3900000 trE ++ ·) = trsP (numF (prI (y1 910000 .byte)) 3 1).1.toNat (prT (y1 910000 .byte)) ∧ ((y 3900000 trE).length : Int) = z 34) (fun z b t y => ((numF (prI (y1 910000 .byte)) 3 1).1 - z 34).toNat) (by cbv) (by cbv) ?_ ?_ (fun z3 b3 t3 u3 y3 R3 hP3 hR3 => ?_)
   ·exact EndOk.au
   ·intro zq bq tq yq hUq
    have q34 := hUq.z 34
    have q136031296 := hUq.z 136031296
    have q136031297 := hUq.z 136031297
    have qy3900000 := hUq.y 3900000 (trE)
    have qy3910000 := hUq.y 3910000 (.byte)
    cbv at q34 q136031296 q136031297 qy3900000 qy3910000
    replace q34 := q34.eq
    replace q136031296 := q136031296.eq
    replace q136031297 := q136031297.eq
    replace qy3900000 := qy3900000.eq
    replace qy3910000 := qy3910000.eq
    simp only [atI, atB, atT, atY, convL_self, vem, veq, ne_eq, cmpI, arI, dvI, shI, SV.den] at q34 q136031296 q136031297 qy3900000 qy3910000
    clear hUq
    try dsimp only [Shp.D, Shp.Ds, Shp.dflt] at *
    try simp only [vla, vem, veq] at *
    replace q34 := q34.symm
    replace q136031296 := q136031296.symm
    replace q136031297 := q136031297.symm
    replace qy3900000 := qy3900000.symm
    replace qy3910000 := qy3910000.symm
    ((try ((try dsimp only [Shp.D, Shp.Ds, Shp.dflt] at *); simp only [vla, vem, veq, vln] at *; (try dsimp only [Shp.D, Shp.Ds, Shp.dflt, Shp.dflts] at *))); (try simp only [Int.toNat_natCast, List.length_drop, Nat.sub_sub, take_rest, List.drop_drop, List.drop_zero, Int.reduceToNat, Nat.reduceAdd, Nat.sub_zero] at *); (try simp_all only [numF_cut, numF_drop, nW1, nW2, nW4, c1, c2, c3, c4, c6, c8, prI_fold, Bool.not_eq_false', Bool.not_eq_true', ok_i, no_i, not_true_eq_false, not_false_eq_true]); (try simp only [ok_iff, no_iff, List.length_drop] at *); first | done | omega | (refine ⟨?_, ?_, ?_, trivial⟩ <;> omega; done) | (refine ⟨trivial, ?_, ?_, trivial⟩ <;> omega; done) | skip)
    refine ⟨by omega, trivial, trivial, trivial, ?_, by simp⟩
    simp [prT]
   obtain ⟨s1, s2, s3, s4, s5, s6⟩ := hP3
   have f1 := n1 (y3 3910000 .byte) 0
   have f2 := n2 (y3 3910000 .byte) 2
   cbv
   (repeat' (first|((with_reducible apply And.intro <;> intro h) <;> (first|(with_reducible first|exact (tf h ‹_›).elim|exact (tf ‹_› h).elim)|cbv)) | ((with_reducible first | refine Cb.mk ?_ | refine Lz.mk ?_ | (apply AllT.mk; intro x hx)); cbv) | ((with_reducible refine Ob.mk (fun _ => ?_) ?_); rotate_left 1) | (with_reducible first | refine Mg.mk (Exists.intro ?_ (And.intro ?_ ?_)) | rfl | refine Fin.mk ?_ | exact True.intro | refine And.intro ?_ ?_)))
   with_reducible refine JoinT.left ?_
   cbv
   (repeat' (first|((with_reducible apply And.intro <;> intro h) <;> (first|(with_reducible first|exact (tf h ‹_›).elim|exact (tf ‹_› h).elim)|cbv)) | ((with_reducible first | refine Cb.mk ?_ | refine Lz.mk ?_ | (apply AllT.mk; intro x hx)); cbv) | ((with_reducible refine Ob.mk (fun _ => ?_) ?_); rotate_left 1) | (with_reducible first | refine Mg.mk (Exists.intro ?_ (And.intro ?_ ?_)) | rfl | refine Fin.mk ?_ | exact True.intro | refine And.intro ?_ ?_)))
   all_goals first|(with_reducible first|show (∃ _, unr _ _ _ _ _ _)|show UnrI _ _ _ _ _|show Goes _ _ _ _|show JoinT _ _ _ _ _ _ _)|(((try dsimp only [Shp.D, Shp.Ds, Shp.dflt] at *); simp only [vla, vem, veq, vln] at *; (try dsimp only [Shp.D, Shp.Ds, Shp.dflt, Shp.dflts] at *); first | done | omega | ((try simp only [Int.toNat_natCast, List.length_drop, Nat.sub_sub, take_rest, List.drop_drop, List.drop_zero, Int.reduceToNat, Nat.reduceAdd, Nat.sub_zero] at *); (try simp_all only [numF_cut, numF_drop, nW1, nW2, nW4, c1, c2, c3, c4, c6, c8, prI_fold, Bool.not_eq_false', Bool.not_eq_true', ok_i, no_i, not_true_eq_false, not_false_eq_true]); (try simp only [ok_iff, no_iff, List.length_drop] at *); first | done | omega | (refine ⟨?_, ?_, ?_, trivial⟩ <;> omega; done) | (refine ⟨trivial, ?_, ?_, trivial⟩ <;> omega; done) | skip)))
   all_goals (try (with_reducible show Goes _ _ _ _; ((with_reducible refine hR1 _ ?_ (fun zq bq tq yq hUq => ?_)); (focus (exact EndOk.au)); (have qb5 := hUq.b 5); (have qy900000 := hUq.y 900000 (prE)); (have qy910000 := hUq.y 910000 (.byte)); (cbv at qb5 qy900000 qy910000); (replace qb5 := qb5.eq); (replace qy900000 := qy900000.eq); (replace qy910000 := qy910000.eq); (simp only [atI, atB, atT, atY, convL_self, vem, veq, ne_eq, cmpI, arI, dvI, shI, SV.den] at qb5 qy900000 qy910000); (clear hUq hR1); (try dsimp only [Shp.D, Shp.Ds, Shp.dflt] at *); (try simp only [vem, veq, ne_eq, cmpI, arI, dvI, shI, SV.den, elemAt, convL_self] at *); (try dsimp only [Shp.D, Shp.Ds, Shp.dflt, Shp.dflts] at *)); ((try ((try dsimp only [Shp.D, Shp.Ds, Shp.dflt] at *); simp only [vla, vem, veq, vln] at *; (try dsimp only [Shp.D, Shp.Ds, Shp.dflt, Shp.dflts] at *))); (try simp only [Int.toNat_natCast, List.length_drop, Nat.sub_sub, take_rest, List.drop_drop, List.drop_zero, Int.reduceToNat, Nat.reduceAdd, Nat.sub_zero] at *); (try simp_all only [numF_cut, numF_drop, nW1, nW2, nW4, c1, c2, c3, c4, c6, c8, prI_fold, Bool.not_eq_false', Bool.not_eq_true', ok_i, no_i, not_true_eq_false, not_false_eq_true]); (try simp only [ok_iff, no_iff, List.length_drop] at *); first | done | omega | (refine ⟨?_, ?_, ?_, trivial⟩ <;> omega; done) | (refine ⟨trivial, ?_, ?_, trivial⟩ <;> omega; done) | skip); exact step_fin hP1 hL1 (by unfold PrC; omega) s5 (by omega) (by omega) qy900000 qb5 qy910000))
   all_goals (try (with_reducible show BadP _; exact bad_ts h0 hP1 (trs_no s5 (by omega) (by omega))))
   have hlt : z3 34 < (numF (prI (y1 910000 .byte)) 3 1).1 := by ((try dsimp only [Shp.D, Shp.Ds, Shp.dflt] at *); simp only [vla, vem, veq, vln] at *; (try dsimp only [Shp.D, Shp.Ds, Shp.dflt, Shp.dflts] at *); (try simp only [Int.toNat_natCast, List.length_drop, Nat.sub_sub, take_rest, List.drop_drop, List.drop_zero, Int.reduceToNat, Nat.reduceAdd, Nat.sub_zero] at *); (try simp_all only [numF_cut, numF_drop, nW1, nW2, nW4, c1, c2, c3, c4, c6, c8, prI_fold, Bool.not_eq_false', Bool.not_eq_true', ok_i, no_i, not_true_eq_false, not_false_eq_true]); (try simp only [ok_iff, no_iff, List.length_drop] at *); first | done | omega | (refine ⟨?_, ?_, ?_, trivial⟩ <;> omega; done) | (refine ⟨trivial, ?_, ?_, trivial⟩ <;> omega; done) | skip)
   with_reducible refine JoinT.left ?_
   cbv
   (repeat' (first|((with_reducible apply And.intro <;> intro h) <;> (first|(with_reducible first|exact (tf h ‹_›).elim|exact (tf ‹_› h).elim)|cbv)) | ((with_reducible first | refine Cb.mk ?_ | refine Lz.mk ?_ | (apply AllT.mk; intro x hx)); cbv) | ((with_reducible refine Ob.mk (fun _ => ?_) ?_); rotate_left 1) | (with_reducible first | refine Mg.mk (Exists.intro ?_ (And.intro ?_ ?_)) | rfl | refine Fin.mk ?_ | exact True.intro | refine And.intro ?_ ?_)))
   with_reducible refine JoinT.left ?_
   cbv
   (repeat' (first|((with_reducible apply And.intro <;> intro h) <;> (first|(with_reducible first|exact (tf h ‹_›).elim|exact (tf ‹_› h).elim)|cbv)) | ((with_reducible first | refine Cb.mk ?_ | refine Lz.mk ?_ | (apply AllT.mk; intro x hx)); cbv) | ((with_reducible refine Ob.mk (fun _ => ?_) ?_); rotate_left 1) | (with_reducible first | refine Mg.mk (Exists.intro ?_ (And.intro ?_ ?_)) | rfl | refine Fin.mk ?_ | exact True.intro | refine And.intro ?_ ?_)))
   all_goals first|(with_reducible first|show (∃ _, unr _ _ _ _ _ _)|show UnrI _ _ _ _ _|show Goes _ _ _ _|show JoinT _ _ _ _ _ _ _)|(((try dsimp only [Shp.D, Shp.Ds, Shp.dflt] at *); simp only [vla, vem, veq, vln] at *; (try dsimp only [Shp.D, Shp.Ds, Shp.dflt, Shp.dflts] at *); first | done | omega | ((try simp only [Int.toNat_natCast, List.length_drop, Nat.sub_sub, take_rest, List.drop_drop, List.drop_zero, Int.reduceToNat, Nat.reduceAdd, Nat.sub_zero] at *); (try simp_all only [numF_cut, numF_drop, nW1, nW2, nW4, c1, c2, c3, c4, c6, c8, prI_fold, Bool.not_eq_false', Bool.not_eq_true', ok_i, no_i, not_true_eq_false, not_false_eq_true]); (try simp only [ok_iff, no_iff, List.length_drop] at *); first | done | omega | (refine ⟨?_, ?_, ?_, trivial⟩ <;> omega; done) | (refine ⟨trivial, ?_, ?_, trivial⟩ <;> omega; done) | skip)))
   all_goals (try (with_reducible show BadP _; exact bad_ts h0 hP1 (trs_bad s5 hlt (fun hc => by have hc := hc.1; unfold TrC at hc; omega))))
   with_reducible refine join_hv (rangeN 10 9) [] [] [] (fun z b t y => (numF (y3 3910000 .byte) 0 1).1 = 0 ∨ (numF (y3 3910000 .byte) 0 1).1 = 3) (by cbv) ?_ ?_
   ·intro R4 hR4
    cbv
    (repeat' (first|((with_reducible apply And.intro <;> intro h) <;> (first|(with_reducible first|exact (tf h ‹_›).elim|exact (tf ‹_› h).elim)|cbv))|((with_reducible first|apply Cb.mk|apply Lz.mk|apply JoinT.left|(apply AllT.mk;intro x hx));cbv)|((with_reducible refine Ob.mk (fun _ => ?_) ?_);rotate_left 1)|(with_reducible first|refine Mg.mk (Exists.intro ?_ (And.intro ?_ ?_))|rfl|apply Fin.mk|exact True.intro|apply And.intro)))
    all_goals first|(with_reducible first|show (∃ _, unr _ _ _ _ _ _)|show UnrI _ _ _ _ _|show Goes _ _ _ _|show JoinT _ _ _ _ _ _ _)|(((try dsimp only [Shp.D, Shp.Ds, Shp.dflt] at *); simp only [vla, vem, veq, vln] at *; (try dsimp only [Shp.D, Shp.Ds, Shp.dflt, Shp.dflts] at *); first | done | omega | ((try simp only [Int.toNat_natCast, List.length_drop, Nat.sub_sub, take_rest, List.drop_drop, List.drop_zero, Int.reduceToNat, Nat.reduceAdd, Nat.sub_zero] at *); (try simp_all only [numF_cut, numF_drop, nW1, nW2, nW4, c1, c2, c3, c4, c6, c8, prI_fold, Bool.not_eq_false', Bool.not_eq_true', ok_i, no_i, not_true_eq_false, not_false_eq_true]); (try simp only [ok_iff, no_iff, List.length_drop] at *); first | done | omega | (refine ⟨?_, ?_, ?_, trivial⟩ <;> omega; done) | (refine ⟨trivial, ?_, ?_, trivial⟩ <;> omega; done) | skip)))
    all_goals first
     | ((with_reducible show BadP _); exact bad_ts h0 hP1 (trs_bad s5 hlt (fun hc => by have hc := hc.1; unfold TrC at hc; omega)))
     | (((with_reducible refine hR4 _ ?_ (fun zq bq tq yq hUq => ?_)); (focus (exact EndOk.au)); (clear hUq hR4); (try dsimp only [Shp.D, Shp.Ds, Shp.dflt] at *); (try simp only [vem, veq, ne_eq, cmpI, arI, dvI, shI, SV.den, elemAt, convL_self] at *); (try dsimp only [Shp.D, Shp.Ds, Shp.dflt, Shp.dflts] at *)); ((try ((try dsimp only [Shp.D, Shp.Ds, Shp.dflt] at *); simp only [vla, vem, veq, vln] at *; (try dsimp only [Shp.D, Shp.Ds, Shp.dflt, Shp.dflts] at *))); (try simp only [Int.toNat_natCast, List.length_drop, Nat.sub_sub, take_rest, List.drop_drop, List.drop_zero, Int.reduceToNat, Nat.reduceAdd, Nat.sub_zero] at *); (try simp_all only [numF_cut, numF_drop, nW1, nW2, nW4, c1, c2, c3, c4, c6, c8, prI_fold, Bool.not_eq_false', Bool.not_eq_true', ok_i, no_i, not_true_eq_false, not_false_eq_true]); (try simp only [ok_iff, no_iff, List.length_drop] at *); first | done | omega | (refine ⟨?_, ?_, ?_, trivial⟩ <;> omega; done) | (refine ⟨trivial, ?_, ?_, trivial⟩ <;> omega; done) | skip))
    all_goals simp
   intro z4 b4 t4 u4 y4 hP4
   cbv
   (repeat' (first|((with_reducible apply And.intro <;> intro h) <;> (first|(with_reducible first|exact (tf h ‹_›).elim|exact (tf ‹_› h).elim)|cbv)) | ((with_reducible show JoinT (fun s K => vc _ (Code.region _ _ true) s K) _ _ _ _ _ _); (with_reducible apply JoinT.mg2); (focus (cbv; (repeat' (first|((with_reducible apply And.intro <;> intro h) <;> (first|(with_reducible first|exact (tf h ‹_›).elim|exact (tf ‹_› h).elim)|cbv))|((with_reducible first|apply Cb.mk|apply Lz.mk|apply JoinT.left|(apply AllT.mk;intro x hx));cbv)|((with_reducible refine Ob.mk (fun _ => ?_) ?_);rotate_left 1)|(with_reducible first|refine Mg.mk (Exists.intro ?_ (And.intro ?_ ?_))|rfl|apply Fin.mk|exact True.intro|apply And.intro))); (all_goals (try (have du : Unit := (); have dv : Unit := (); first | exact Goes.self (Ex2.mk ⟨dv, du, trivial, trivial, rfl⟩) | exact Goes.self (Ex2.mk ⟨x, du, hx, trivial, rfl⟩) | (rename_i xa hxa; exact Goes.self (Ex2.mk ⟨xa, x, hxa, hx, rfl⟩))))); (all_goals (fail_if_success (with_reducible first | show Goes _ _ _ _ | show (∃ _, unr _ _ _ _ _ _)))))))|((with_reducible first|apply Cb.mk|apply Lz.mk|apply JoinT.left|(apply AllT.mk;intro x hx));cbv)|((with_reducible refine Ob.mk (fun _ => ?_) ?_);rotate_left 1)|(with_reducible first|refine Mg.mk (Exists.intro ?_ (And.intro ?_ ?_))|rfl|apply Fin.mk|exact True.intro|apply And.intro)))
   all_goals first|(with_reducible first|show (∃ _, unr _ _ _ _ _ _)|show UnrI _ _ _ _ _|show Goes _ _ _ _|show JoinT _ _ _ _ _ _ _)|(((try dsimp only [Shp.D, Shp.Ds, Shp.dflt] at *); simp only [vla, vem, veq, vln] at *; (try dsimp only [Shp.D, Shp.Ds, Shp.dflt, Shp.dflts] at *); first | done | omega | ((try simp only [Int.toNat_natCast, List.length_drop, Nat.sub_sub, take_rest, List.drop_drop, List.drop_zero, Int.reduceToNat, Nat.reduceAdd, Nat.sub_zero] at *); (try simp_all only [numF_cut, numF_drop, nW1, nW2, nW4, c1, c2, c3, c4, c6, c8, prI_fold, Bool.not_eq_false', Bool.not_eq_true', ok_i, no_i, not_true_eq_false, not_false_eq_true]); (try simp only [ok_iff, no_iff, List.length_drop] at *); first | done | omega | (refine ⟨?_, ?_, ?_, trivial⟩ <;> omega; done) | (refine ⟨trivial, ?_, ?_, trivial⟩ <;> omega; done) | skip)))
   all_goals (try (with_reducible show BadP _; exact bad_ts h0 hP1 (trs_bad s5 hlt (fun hc => by have hc := hc.1; unfold TrC at hc; omega))))
   all_goals (try (with_reducible show BadP _; exact bad_ts h0 hP1 (trs_mis s5 s1 hlt e5.2 (by assumption))))
   all_goals (try (with_reducible show Goes _ _ _ _; ((with_reducible refine hR3 _ ?_ (fun zq bq tq yq hUq => ?_)); (focus (exact EndOk.au)); (have q34 := hUq.z 34); (have q136031296 := hUq.z 136031296); (have q136031297 := hUq.z 136031297); (have qy3900000 := hUq.y 3900000 (trE)); (have qy3910000 := hUq.y 3910000 (.byte)); (cbv at q34 q136031296 q136031297 qy3900000 qy3910000); (replace q34 := q34.eq); (replace q136031296 := q136031296.eq); (replace q136031297 := q136031297.eq); (replace qy3900000 := qy3900000.eq); (replace qy3910000 := qy3910000.eq); (simp only [atI, atB, atT, atY, convL_self, vem, veq, ne_eq, cmpI, arI, dvI, shI, SV.den] at q34 q136031296 q136031297 qy3900000 qy3910000); (clear hUq hR3); (try dsimp only [Shp.D, Shp.Ds, Shp.dflt] at *); (try simp only [vem, veq, ne_eq, cmpI, arI, dvI, shI, SV.den, elemAt, convL_self] at *); (try dsimp only [Shp.D, Shp.Ds, Shp.dflt, Shp.dflts] at *)); ((try ((try dsimp only [Shp.D, Shp.Ds, Shp.dflt] at *); simp only [vla, vem, veq, vln] at *; (try dsimp only [Shp.D, Shp.Ds, Shp.dflt, Shp.dflts] at *))); (try simp only [Int.toNat_natCast, List.length_drop, Nat.sub_sub, take_rest, List.drop_drop, List.drop_zero, Int.reduceToNat, Nat.reduceAdd, Nat.sub_zero] at *); (try simp_all only [numF_cut, numF_drop, nW1, nW2, nW4, c1, c2, c3, c4, c6, c8, prI_fold, Bool.not_eq_false', Bool.not_eq_true', ok_i, no_i, not_true_eq_false, not_false_eq_true]); (try simp only [ok_iff, no_iff, List.length_drop] at *); first | done | omega | (refine ⟨?_, ?_, ?_, trivial⟩ <;> omega; done) | (refine ⟨trivial, ?_, ?_, trivial⟩ <;> omega; done) | skip); first | exact step_tr s5 s1 hlt e5.2 (by unfold TrC; omega) (by assumption) s6 q34 (by unfold trV; rw [if_pos (by omega)]) qy3900000 qy3910000 | exact step_tr s5 s1 hlt e5.2 (by unfold TrC; omega) (by assumption) s6 q34 (by unfold trV; rw [if_neg (by omega)]) qy3900000 qy3910000))
end
end Go.Proofs.YtkifmppmfkpfbaaGreat.V
