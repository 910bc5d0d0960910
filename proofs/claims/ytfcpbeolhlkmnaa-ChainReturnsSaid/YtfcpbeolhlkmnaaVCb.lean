/- Contracts: chains of payloads are built (program). -/
import Derived.Test.YtfcpbeolhlkmnaaVCa
set_option linter.unusedVariables false
set_option linter.unusedSimpArgs false
namespace Go.Proofs.Ytfcpbeolhlkmnaa.V
open Go.RowKit
set_option maxHeartbeats 8000000
set_option maxRecDepth 100000
theorem putF_len (v : Int) (w : Int) (h : 1 ≤ w ∧ w ≤ 8) : ((putF v w).length : Int) = w := by rw [putF, if_pos h, putB_length]; omega
abbrev i64E : Shp := .int .i64
/-- The bytes of a payload; nx is the type of the next one. -/
def oneB (r : RawT) (nx : Int) : List UInt8 := toB (IntKind.u8.wrap nx) :: (if r.2.1 then 128 else 0) :: (putF (IntKind.u64.wrap ((r.2.2.1.length : Int) + 4)) 2 ++ r.2.2.1)
def hdK : List RawT → Int → Int
  | [], ins => ins
  | s :: _, _ => s.1
def outB : List RawT → Int → List UInt8
  | [], _ => []
  | r :: l, ins => oneB r (hdK l ins) ++ outB l ins
def nextF (l : List RawT) (ins : Int) (k : Nat) : Int := if k + 1 < l.length then (l.getD (k + 1) raw0).1 else ins
theorem outB_drop (l : List RawT) (ins : Int) (k : Nat) (h : k < l.length) : outB (l.drop k) ins = oneB (l.getD k raw0) (nextF l ins k) ++ outB (l.drop (k + 1)) ins := by
  rw [List.drop_eq_getElem_cons h, outB, List.getD_eq_getElem?_getD, List.getElem?_eq_getElem h, nextF]
  congr 2
  by_cases hk : k + 1 < l.length
  · rw [List.drop_eq_getElem_cons hk, if_pos hk, List.getD_eq_getElem?_getD, List.getElem?_eq_getElem hk]
    rfl
  · rw [List.drop_eq_nil_of_le (by omega), if_neg hk]; rfl
theorem outB_nil (l : List RawT) (ins : Int) (k : Nat) (h : l.length ≤ k) : outB (l.drop k) ins = [] := by
  rw [List.drop_eq_nil_of_le h, outB]
theorem oneB_length (r : RawT) (nx : Int) : (oneB r nx).length = 4 + r.2.2.1.length := by
  have h := putF_len (IntKind.u64.wrap ((r.2.2.1.length : Int) + 4)) 2 (by omega)
  simp only [oneB, List.length_cons, List.length_append]
  omega
theorem kinds_at (l : List RawT) (ins : Int) (k : Nat) (h : k < l.length) : (l.map (·.1) ++ [ins]).getD (k + 1) 0 = nextF l ins k := by
  rw [nextF, List.getD_eq_getElem?_getD]
  by_cases hk : k + 1 < l.length
  · rw [if_pos hk, List.getElem?_append_left (by simpa using hk), List.getElem?_map, List.getElem?_eq_getElem hk, List.getD_eq_getElem?_getD, List.getElem?_eq_getElem hk]
    rfl
  · rw [if_neg hk, List.getElem?_append_right (by simp; omega)]
    simp [show k + 1 - l.length = 0 by omega]
theorem checkF_0 {l : List RawT} {ins : Int} (h : checkF l ins = 0) : l.length ≤ 40 ∧ chkL l = 0 ∧ 0 ≤ ins ∧ ins ≤ 255 ∧ (l.length = 0 → ins = 0) := by
  unfold checkF at h
  split at h
  · cases h
  · split at h
    · rename_i h1; exact absurd h h1
    · split at h
      · cases h
      · split at h
        · cases h
        · rename_i h1 h2 h3 h4
          refine ⟨by omega, by simpa using h2, by omega, by omega, fun h5 => ?_⟩
          exact Decidable.byContradiction fun h6 => h4 ⟨h6, .inl h5⟩
theorem chk_at : ∀ {l : List RawT}, chkL l = 0 → ∀ r ∈ l, 1 ≤ r.1 ∧ r.1 ≤ 255 ∧ r.2.2.1.length ≤ 65531
  | [], _, r, hr => by cases hr
  | s :: l, h, r, hr => by
    unfold chkL at h
    split at h
    · cases h
    · split at h
      · cases h
      · split at h
        · cases h
        · rcases List.mem_cons.1 hr with rfl | hr
          · exact ⟨by omega, by omega, by omega⟩
          · exact chk_at h r hr
theorem chk_get {l : List RawT} (h : chkL l = 0) (k : Nat) (hk : k < l.length) : 1 ≤ (l.getD k raw0).1 ∧ (l.getD k raw0).1 ≤ 255 ∧ (l.getD k raw0).2.2.1.length ≤ 65531 := by
  rw [List.getD_eq_getElem?_getD, List.getElem?_eq_getElem hk]
  exact chk_at h _ (List.getElem_mem hk)
def headF : List RawT → Int
  | [] => 0
  | r :: _ => r.1
/-- Type of the first payload, bytes, or what is wrong. -/
def chainF (l : List RawT) (ins : Int) : Int × List UInt8 × Int := if checkF l ins ≠ 0 then (0, [], checkF l ins) else (headF l, outB l ins, 0)
theorem take_map_succ (l : List RawT) (k : Nat) (h : k < l.length) : (l.take k).map (·.1) ++ [(l.getD k raw0).1] = (l.take (k + 1)).map (·.1) := by
  rw [List.take_succ_eq_append_getElem h, List.map_append, List.getD_eq_getElem?_getD, List.getElem?_eq_getElem h]
  rfl
theorem head_at (l : List RawT) (ins : Int) (h : l.length = 0 → ins = 0) : (l.map (·.1) ++ [ins]).getD 0 0 = headF l := by
  cases l with
  | nil => exact h rfl
  | cons r l => rfl
theorem cb_step {l : List RawT} {ins k j n : Int} {ys x : List UInt8} {ks : List Int} {m : UInt8} (p3 : ks = (l.take n.toNat).map (·.1)) (hn : ¬ n < (l.length : Int)) (r4 : ys ++ outB (l.drop k.toNat) ins = outB l ins) (k0 : 0 ≤ k) (k1 : k < (l.length : Int)) (hl40 : l.length ≤ 40) (hj : j = k + 1) (hm' : ((l.getD k.toNat raw0).2.1 = true ∧ m = 128) ∨ ((l.getD k.toNat raw0).2.1 = false ∧ m = 0)) (c2 : chkL l = 0) (r3 : (ys.length : Int) ≤ 65535 * k)
    (hx : x = ys ++ [toB (IntKind.u8.wrap ((ks ++ [ins]).getD ((k + 1 + 9223372036854775808) % 18446744073709551616 - 9223372036854775808).toNat 0)), m] ++ putF (IntKind.u64.wrap ((((l.getD k.toNat raw0).2.2.1.length : Int) + 4 + 9223372036854775808) % 18446744073709551616 - 9223372036854775808)) 2) :
    ((x ++ (l.getD k.toNat raw0).2.2.1).length : Int) ≤ 65535 * j ∧ (x ++ (l.getD k.toNat raw0).2.2.1) ++ outB (l.drop j.toNat) ins = outB l ins := by
  have hb := (chk_get c2 k.toNat (by omega)).2.2
  have hm : m = if (l.getD k.toNat raw0).2.1 then 128 else 0 := by
    rcases hm' with ⟨h1, h2⟩ | ⟨h1, h2⟩
    · rw [h1, h2]; rfl
    · rw [h1, h2]; rfl
  refine ⟨?_, ?_⟩
  · have h := putF_len (IntKind.u64.wrap ((((l.getD k.toNat raw0).2.2.1.length : Int) + 4 + 9223372036854775808) % 18446744073709551616 - 9223372036854775808)) 2 (by omega)
    rw [hx]
    simp only [List.length_append, List.length_cons, List.length_nil]
    omega
  have e1 : ks = l.map (·.1) := by rw [p3, List.take_of_length_le (by omega)]
  rw [← r4, outB_drop l ins k.toNat (by omega), hx, hj, show (k + 1).toNat = k.toNat + 1 by omega, e1, show ((k + 1 + 9223372036854775808) % 18446744073709551616 - 9223372036854775808).toNat = k.toNat + 1 by omega, kinds_at l ins k.toNat (by omega), hm, oneB,
    show (((l.getD k.toNat raw0).2.2.1.length : Int) + 4 + 9223372036854775808) % 18446744073709551616 - 9223372036854775808 = ((l.getD k.toNat raw0).2.2.1.length : Int) + 4 by omega]
  simp only [List.append_assoc, List.cons_append, List.nil_append]
theorem cb_lim {l : List RawT} {k : Int} {ys x : List UInt8} (c2 : chkL l = 0) (c1 : l.length ≤ 40) (k0 : 0 ≤ k) (k1 : k < (l.length : Int)) (r3 : (ys.length : Int) ≤ 65535 * k) (hx : x.length ≤ ys.length + (0 + 1 + 1) + 8) : (x.length + (l.getD k.toNat raw0).2.2.1.length) * 1 ≤ 140737488355328 ∧ x.length + (l.getD k.toNat raw0).2.2.1.length ≤ 140737488355328 := by
  have hb := (chk_get c2 k.toNat (by omega)).2.2
  omega
theorem cb_end {l : List RawT} {ins k n : Int} {ys : List UInt8} {ks : List Int} (p3 : ks = (l.take n.toNat).map (·.1)) (hn : ¬ n < (l.length : Int)) (r4 : ys ++ outB (l.drop k.toNat) ins = outB l ins) (k1 : ¬ k < (l.length : Int)) (hc : checkF l ins = 0) : ((ks ++ [ins]).getD (Int.toNat 0) 0, ys, 0) = chainF l ins := by
  have e1 : ks = l.map (·.1) := by rw [p3, List.take_of_length_le (by omega)]
  rw [outB_nil l ins k.toNat (by omega), List.append_nil] at r4
  unfold chainF
  rw [if_neg (by rw [hc]; simp), e1, r4]
  show ((l.map (·.1) ++ [ins]).getD 0 0, _, _) = _
  rw [head_at l ins (checkF_0 hc).2.2.2.2]
abbrev cbuSp : Spec := fnSpec chkAs [.int .i64, .sl .byte, .int .i64] [5] (fun _ => True) fun x y => (y.1, y.2.1, y.2.2.1) = chainF x.1 x.2.1
abbrev wputS2 : Spec := fnSpecT putAs [some 5, none, none] [.sl .byte] [.own 5] [] putPre putPost
def cbC_t : SpecT := nd0 40 (lf0 39 (chkFn)) (lf0 40 (wputS2))
def cbC : Cx := ⟨tt, qt, bt, st, cbC_t, 0, 1000000000000000, fun _ => none, false, CxE.no⟩
theorem cbC_si {E : Env} (h : E.ok) : SpecsOk Try.prog E (CxE.no) cbC_t (fun _ => none) := ⟨(nd0_ok (lf0_ok (cchk_sp h)) (lf0_ok (wput_sp h))), noI_ok _ _ _⟩
theorem cbC_x {E : Env} (h : E.ok) : CxEOk Try.prog E (CxE.no) := CxE.no_ok _ _
theorem cbC_cx (E : Env) (h : E.ok) (h1 : E.lo = 0) (h2 : E.hi = 1000000000000000) : Cx.ok cbC Try.prog E := ⟨tt_ok, qt_ok, bt_ok, cbC_si h, h, h1, h2, mixed_ok, cbC_x h⟩
theorem cbC_from (lo hi : Nat) (E : Env) (h : E.ok) (h1 : E.lo = lo) (h2 : E.hi = hi) : Cx.ok (Cx.from cbC lo hi) Try.prog E := ⟨tt_ok, qt_ok, bt_ok, cbC_si h, h, h1, h2, mixed_ok, cbC_x h⟩
theorem cbu_fn : hasFn Try.prog 17 := ⟨_, Try.func17, by rfl, by rfl⟩
theorem cbu_sp {E : Env} (hE : E.ok) : SpecOk Try.prog E 17 cbuSp := by
  refine spec_of_vc (C := cbC) cbu_fn Try.func17 (by kernel_rfl) cbC_cx (fun x hl hx => ?_) hE
  obtain ⟨l, ins, u⟩ := x
  have hlen : l.length ≤ 140737488355328 := by simp only [Shp.lims, Shp.lim] at hl; exact hl.1.1
  cbv
  (repeat' (first | ((with_reducible refine And.intro (fun h => ?_) (fun h => ?_)) <;> (first | with_reducible exact (tf h (by assumption)).elim | with_reducible exact (tf (by assumption) h).elim | cbv)) | ((with_reducible show JoinT (fun s K => vc _ (Code.region _ _ true) s K) _ _ _ _ _); (with_reducible apply JoinT.mg2); (focus (cbv; (repeat' (first | ((with_reducible refine And.intro (fun h => ?_) (fun h => ?_)) <;> (first | with_reducible exact (tf h (by assumption)).elim | with_reducible exact (tf (by assumption) h).elim | cbv)) | ((with_reducible first | refine Cb.mk ?_ | refine Lz.mk ?_ | refine JoinT.left ?_ | refine AllT.mk (fun x hx => ?_)); cbv) | ((with_reducible refine Ob.mk (fun _ => ?_) ?_); rotate_left 1) | (with_reducible first | refine Mg.mk (Exists.intro ?_ (And.intro ?_ ?_)) | rfl | refine Fin.mk ?_ | exact True.intro | refine And.intro ?_ ?_))); (all_goals (try (have du : Unit := (); have dv : Unit := (); first | exact Goes.self (Ex2.mk ⟨dv, du, trivial, trivial, rfl⟩) | exact Goes.self (Ex2.mk ⟨x, du, hx, trivial, rfl⟩) | (rename_i xa hxa; exact Goes.self (Ex2.mk ⟨xa, x, hxa, hx, rfl⟩))))); (all_goals (fail_if_success (with_reducible first | show Goes _ _ _ _ | show (∃ _, unr _ _ _ _ _ _))))))) | ((with_reducible first | refine Cb.mk ?_ | refine Lz.mk ?_ | refine JoinT.left ?_ | refine AllT.mk (fun x hx => ?_)); cbv) | ((with_reducible refine Ob.mk (fun _ => ?_) ?_); rotate_left 1) | (with_reducible first | refine Mg.mk (Exists.intro ?_ (And.intro ?_ ?_)) | rfl | refine Fin.mk ?_ | exact True.intro | refine And.intro ?_ ?_)))
  all_goals first | (with_reducible show (∃ _, unr _ _ _ _ _ _); skip) | (with_reducible show Goes _ _ _ _; skip) | (with_reducible show JoinT _ _ _ _ _ _; skip) | (first | ((try dsimp only [Shp.D, Shp.Ds, Shp.dflt] at *); simp only [vem, veq, ne_eq, cmpI, arI, dvI, shI, SV.den, obLt, elemAt, obApp, partL, obPart, lowD, highD, mxOk, convL_self, zerosB, List.length_replicate, vln] at *; (try dsimp only [Shp.D, Shp.Ds, Shp.dflt, Shp.dflts] at *); done) | ((try dsimp only [Shp.D, Shp.Ds, Shp.dflt] at *); simp only [vem, veq, ne_eq, cmpI, arI, dvI, shI, SV.den, obLt, elemAt, obApp, partL, obPart, lowD, highD, mxOk, convL_self, zerosB, List.length_replicate, vln] at *; (try dsimp only [Shp.D, Shp.Ds, Shp.dflt, Shp.dflts] at *); unfold chainF; rw [if_pos (by rw [← hx.1]; exact h), hx.1]; done))
  with_reducible refine loop_hv [(8, 901, 3, .int .i64)] (9 :: 10 :: 21 :: rangeN 25 48) [] [901] (fun z b t y => 0 ≤ z 24 ∧ z 24 ≤ (l.length : Int) ∧ y 901 (.int .i64) = (l.take (z 24).toNat).map (·.1)) (fun z b t y => ((l.length : Int) - z 24).toNat) (by cbv) (by cbv) ?_ ?_ (fun z1 b1 t1 u1 y1 R1 hP1 hR1 => ?_)
  · refine EndOk.mk (by cbv) (by cbv) (by cbv; repeat' (first | exact True.intro | exact rfl | with_reducible refine And.intro ?_ ?_)) (by cbv; repeat' (first | exact True.intro | exact rfl | with_reducible refine And.intro ?_ ?_)) (by cbv; repeat' (first | exact True.intro | exact rfl | with_reducible refine And.intro ?_ ?_))
  · intro zq bq tq yq hUq
    have q24 := hUq.z 24
    cbv at q24
    replace q24 := q24.eq
    simp only [atI, vem, veq, ne_eq, cmpI, arI, dvI, shI, SV.den] at q24
    have qy901 := hUq.y 901 (i64E)
    cbv at qy901
    replace qy901 := qy901.eq
    simp only [atY, convL_self, vem, veq, ne_eq, cmpI, arI, dvI, shI, SV.den] at qy901
    clear hUq
    try dsimp only [Shp.D, Shp.Ds, Shp.dflt] at *
    try simp only [vem, veq, ne_eq, cmpI, arI, dvI, shI, SV.den, convL_self] at *
    rw [← q24, ← qy901]
    exact ⟨by omega, by omega, rfl⟩
  obtain ⟨p1, p2, p3⟩ := hP1
  have hc : checkF l ins = 0 := by
    have h0 := hx.1
    (try dsimp only [Shp.D, Shp.Ds, Shp.dflt] at *); simp only [vem, veq, ne_eq, cmpI, arI, dvI, shI, SV.den, obLt, elemAt, obApp, partL, obPart, lowD, highD, mxOk, convL_self, zerosB, List.length_replicate, vln] at *; (try dsimp only [Shp.D, Shp.Ds, Shp.dflt, Shp.dflts] at *)
    exact h0.symm.trans ‹x.1 = 0›
  obtain ⟨c1, c2, c3, c4, c5⟩ := checkF_0 hc
  have p4 := congrArg List.length p3
  simp only [List.length_map, List.length_take] at p4
  cbv
  (repeat' (first | ((with_reducible refine And.intro (fun h => ?_) (fun h => ?_)) <;> (first | with_reducible exact (tf h (by assumption)).elim | with_reducible exact (tf (by assumption) h).elim | cbv)) | ((with_reducible show JoinT (fun s K => vc _ (Code.region _ _ true) s K) _ _ _ _ _); (with_reducible apply JoinT.mg2); (focus (cbv; (repeat' (first | ((with_reducible refine And.intro (fun h => ?_) (fun h => ?_)) <;> (first | with_reducible exact (tf h (by assumption)).elim | with_reducible exact (tf (by assumption) h).elim | cbv)) | ((with_reducible first | refine Cb.mk ?_ | refine Lz.mk ?_ | refine JoinT.left ?_ | refine AllT.mk (fun x hx => ?_)); cbv) | ((with_reducible refine Ob.mk (fun _ => ?_) ?_); rotate_left 1) | (with_reducible first | refine Mg.mk (Exists.intro ?_ (And.intro ?_ ?_)) | rfl | refine Fin.mk ?_ | exact True.intro | refine And.intro ?_ ?_))); (all_goals (try (have du : Unit := (); have dv : Unit := (); first | exact Goes.self (Ex2.mk ⟨dv, du, trivial, trivial, rfl⟩) | exact Goes.self (Ex2.mk ⟨x, du, hx, trivial, rfl⟩) | (rename_i xa hxa; exact Goes.self (Ex2.mk ⟨xa, x, hxa, hx, rfl⟩))))); (all_goals (fail_if_success (with_reducible first | show Goes _ _ _ _ | show (∃ _, unr _ _ _ _ _ _))))))) | ((with_reducible first | refine Cb.mk ?_ | refine Lz.mk ?_ | refine JoinT.left ?_ | refine AllT.mk (fun x hx => ?_)); cbv) | ((with_reducible refine Ob.mk (fun _ => ?_) ?_); rotate_left 1) | (with_reducible first | refine Mg.mk (Exists.intro ?_ (And.intro ?_ ?_)) | rfl | refine Fin.mk ?_ | exact True.intro | refine And.intro ?_ ?_)))
  all_goals first | (with_reducible show (∃ _, unr _ _ _ _ _ _); skip) | (with_reducible show Goes _ _ _ _; skip) | (with_reducible show JoinT _ _ _ _ _ _; skip) | (first | ((try dsimp only [Shp.D, Shp.Ds, Shp.dflt] at *); simp only [vem, veq, ne_eq, cmpI, arI, dvI, shI, SV.den, obLt, elemAt, obApp, partL, obPart, lowD, highD, mxOk, convL_self, zerosB, List.length_replicate, vln] at *; (try dsimp only [Shp.D, Shp.Ds, Shp.dflt, Shp.dflts] at *); done) | ((try dsimp only [Shp.D, Shp.Ds, Shp.dflt] at *); simp only [vem, veq, ne_eq, cmpI, arI, dvI, shI, SV.den, obLt, elemAt, obApp, partL, obPart, lowD, highD, mxOk, convL_self, zerosB, List.length_replicate, vln] at *; (try dsimp only [Shp.D, Shp.Ds, Shp.dflt, Shp.dflts] at *); omega) | skip)
  · with_reducible refine hR1 _ ?_ (fun zq bq tq yq hUq => ?_)
    · refine EndOk.mk (by cbv) (by cbv) (by cbv; repeat' (first | exact True.intro | exact rfl | with_reducible refine And.intro ?_ ?_)) (by cbv; repeat' (first | exact True.intro | exact rfl | with_reducible refine And.intro ?_ ?_)) (by cbv; repeat' (first | exact True.intro | exact rfl | with_reducible refine And.intro ?_ ?_))
    have q24 := hUq.z 24
    cbv at q24
    replace q24 := q24.eq
    simp only [atI, vem, veq, ne_eq, cmpI, arI, dvI, shI, SV.den] at q24
    have qy901 := hUq.y 901 (i64E)
    cbv at qy901
    replace qy901 := qy901.eq
    simp only [atY, convL_self, vem, veq, ne_eq, cmpI, arI, dvI, shI, SV.den] at qy901
    clear hUq hR1
    try dsimp only [Shp.D, Shp.Ds, Shp.dflt] at *
    try simp only [vem, veq, ne_eq, cmpI, arI, dvI, shI, SV.den, elemAt, convL_self] at *
    try dsimp only [Shp.D, Shp.Ds, Shp.dflt, Shp.dflts] at *
    refine ⟨⟨by omega, by omega, ?_⟩, by omega⟩
    rw [← qy901, show (zq 24).toNat = (z1 24).toNat + 1 by omega, ← take_map_succ l _ (by omega), ← p3]
  with_reducible refine loop_hv [(11, 902, 5, .byte)] (12 :: 13 :: 14 :: 34 :: 36 :: rangeN 41 32) [] [902] (fun z b t y => 0 ≤ z 40 ∧ z 40 ≤ (l.length : Int) ∧ ((y 902 .byte).length : Int) ≤ 65535 * z 40 ∧ y 902 .byte ++ outB (l.drop (z 40).toNat) ins = outB l ins) (fun z b t y => ((l.length : Int) - z 40).toNat) (by cbv) (by cbv) ?_ ?_ (fun z2 b2 t2 u2 y2 R2 hP2 hR2 => ?_)
  · refine EndOk.mk (by cbv) (by cbv) (by cbv; repeat' (first | exact True.intro | exact rfl | with_reducible refine And.intro ?_ ?_)) (by cbv; repeat' (first | exact True.intro | exact rfl | with_reducible refine And.intro ?_ ?_)) (by cbv; repeat' (first | exact True.intro | exact rfl | with_reducible refine And.intro ?_ ?_))
  · intro zq bq tq yq hUq
    have q40 := hUq.z 40
    cbv at q40
    replace q40 := q40.eq
    simp only [atI, vem, veq, ne_eq, cmpI, arI, dvI, shI, SV.den] at q40
    have qy902 := hUq.y 902 (.byte)
    cbv at qy902
    replace qy902 := qy902.eq
    simp only [atY, convL_self, vem, veq, ne_eq, cmpI, arI, dvI, shI, SV.den] at qy902
    clear hUq
    try dsimp only [Shp.D, Shp.Ds, Shp.dflt] at *
    try simp only [vem, veq, ne_eq, cmpI, arI, dvI, shI, SV.den, convL_self] at *
    rw [← q40, ← qy902]
    exact ⟨by omega, by omega, by simp, rfl⟩
  obtain ⟨r1, r2, r3, r4⟩ := hP2
  cbv
  (repeat' (first | ((with_reducible refine And.intro (fun h => ?_) (fun h => ?_)) <;> (first | with_reducible exact (tf h (by assumption)).elim | with_reducible exact (tf (by assumption) h).elim | cbv)) | ((with_reducible show JoinT (fun s K => vc _ (Code.region _ _ true) s K) _ _ _ _ _); (with_reducible apply JoinT.mg2); (focus (cbv; (repeat' (first | ((with_reducible refine And.intro (fun h => ?_) (fun h => ?_)) <;> (first | with_reducible exact (tf h (by assumption)).elim | with_reducible exact (tf (by assumption) h).elim | cbv)) | ((with_reducible first | refine Cb.mk ?_ | refine Lz.mk ?_ | refine JoinT.left ?_ | refine AllT.mk (fun x hx => ?_)); cbv) | ((with_reducible refine Ob.mk (fun _ => ?_) ?_); rotate_left 1) | (with_reducible first | refine Mg.mk (Exists.intro ?_ (And.intro ?_ ?_)) | rfl | refine Fin.mk ?_ | exact True.intro | refine And.intro ?_ ?_))); (all_goals (try (have du : Unit := (); have dv : Unit := (); first | exact Goes.self (Ex2.mk ⟨dv, du, trivial, trivial, rfl⟩) | exact Goes.self (Ex2.mk ⟨x, du, hx, trivial, rfl⟩) | (rename_i xa hxa; exact Goes.self (Ex2.mk ⟨xa, x, hxa, hx, rfl⟩))))); (all_goals (fail_if_success (with_reducible first | show Goes _ _ _ _ | show (∃ _, unr _ _ _ _ _ _))))))) | ((with_reducible first | refine Cb.mk ?_ | refine Lz.mk ?_ | refine JoinT.left ?_ | refine AllT.mk (fun x hx => ?_)); cbv) | ((with_reducible refine Ob.mk (fun _ => ?_) ?_); rotate_left 1) | (with_reducible first | refine Mg.mk (Exists.intro ?_ (And.intro ?_ ?_)) | rfl | refine Fin.mk ?_ | exact True.intro | refine And.intro ?_ ?_)))
  all_goals first | (with_reducible show (∃ _, unr _ _ _ _ _ _); skip) | (with_reducible show Goes _ _ _ _; skip) | (with_reducible show JoinT _ _ _ _ _ _; skip) | (first | ((try dsimp only [Shp.D, Shp.Ds, Shp.dflt] at *); simp only [vem, veq, ne_eq, cmpI, arI, dvI, shI, SV.den, obLt, elemAt, obApp, partL, obPart, lowD, highD, mxOk, convL_self, zerosB, List.length_replicate, vln] at *; (try dsimp only [Shp.D, Shp.Ds, Shp.dflt, Shp.dflts] at *); done) | ((try dsimp only [Shp.D, Shp.Ds, Shp.dflt] at *); simp only [vem, veq, ne_eq, cmpI, arI, dvI, shI, SV.den, obLt, elemAt, obApp, partL, obPart, lowD, highD, mxOk, convL_self, zerosB, List.length_replicate, vln] at *; (try dsimp only [Shp.D, Shp.Ds, Shp.dflt, Shp.dflts] at *); omega) | ((try dsimp only [Shp.D, Shp.Ds, Shp.dflt] at *); simp only [vem, veq, ne_eq, cmpI, arI, dvI, shI, SV.den, obLt, elemAt, obApp, partL, obPart, lowD, highD, mxOk, convL_self, zerosB, List.length_replicate, vln] at *; (try dsimp only [Shp.D, Shp.Ds, Shp.dflt, Shp.dflts] at *); exact cb_lim c2 c1 r1 (by assumption) r3 hx.1.2) | ((try dsimp only [Shp.D, Shp.Ds, Shp.dflt] at *); simp only [vem, veq, ne_eq, cmpI, arI, dvI, shI, SV.den, obLt, elemAt, obApp, partL, obPart, lowD, highD, mxOk, convL_self, zerosB, List.length_replicate, vln] at *; (try dsimp only [Shp.D, Shp.Ds, Shp.dflt, Shp.dflts] at *); exact cb_end p3 (by assumption) r4 h hc) | (try ((try dsimp only [Shp.D, Shp.Ds, Shp.dflt] at *); simp only [vem, veq, ne_eq, cmpI, arI, dvI, shI, SV.den, obLt, elemAt, obApp, partL, obPart, lowD, highD, mxOk, convL_self, zerosB, List.length_replicate, vln] at *; (try dsimp only [Shp.D, Shp.Ds, Shp.dflt, Shp.dflts] at *))))
  all_goals first
    | (with_reducible show Goes _ _ _ _; skip)
    | trace_state
  · with_reducible refine hR2 _ ?_ (fun zq bq tq yq hUq => ?_)
    · refine EndOk.mk (by cbv) (by cbv) (by cbv; repeat' (first | exact True.intro | exact rfl | with_reducible refine And.intro ?_ ?_)) (by cbv; repeat' (first | exact True.intro | exact rfl | with_reducible refine And.intro ?_ ?_)) (by cbv; repeat' (first | exact True.intro | exact rfl | with_reducible refine And.intro ?_ ?_))
    have q40 := hUq.z 40
    cbv at q40
    replace q40 := q40.eq
    simp only [atI, vem, veq, ne_eq, cmpI, arI, dvI, shI, SV.den] at q40
    have qy902 := hUq.y 902 (.byte)
    cbv at qy902
    replace qy902 := qy902.eq
    simp only [atY, convL_self, vem, veq, ne_eq, cmpI, arI, dvI, shI, SV.den] at qy902
    clear hUq hR2
    try dsimp only [Shp.D, Shp.Ds, Shp.dflt] at *
    try simp only [vem, veq, ne_eq, cmpI, arI, dvI, shI, SV.den, elemAt, convL_self] at *
    try dsimp only [Shp.D, Shp.Ds, Shp.dflt, Shp.dflts] at *
    obtain ⟨s1, s2⟩ := cb_step p3 (by assumption) r4 r1 (by omega) c1 (j := zq 40) (by omega) (.inl ⟨h, rfl⟩) c2 r3 hx.1.1
    rw [qy902] at s1 s2
    exact ⟨⟨by omega, by omega, s1, s2⟩, by omega⟩
  · with_reducible refine hR2 _ ?_ (fun zq bq tq yq hUq => ?_)
    · refine EndOk.mk (by cbv) (by cbv) (by cbv; repeat' (first | exact True.intro | exact rfl | with_reducible refine And.intro ?_ ?_)) (by cbv; repeat' (first | exact True.intro | exact rfl | with_reducible refine And.intro ?_ ?_)) (by cbv; repeat' (first | exact True.intro | exact rfl | with_reducible refine And.intro ?_ ?_))
    have q40 := hUq.z 40
    cbv at q40
    replace q40 := q40.eq
    simp only [atI, vem, veq, ne_eq, cmpI, arI, dvI, shI, SV.den] at q40
    have qy902 := hUq.y 902 (.byte)
    cbv at qy902
    replace qy902 := qy902.eq
    simp only [atY, convL_self, vem, veq, ne_eq, cmpI, arI, dvI, shI, SV.den] at qy902
    clear hUq hR2
    try dsimp only [Shp.D, Shp.Ds, Shp.dflt] at *
    try simp only [vem, veq, ne_eq, cmpI, arI, dvI, shI, SV.den, elemAt, convL_self] at *
    try dsimp only [Shp.D, Shp.Ds, Shp.dflt, Shp.dflts] at *
    obtain ⟨s1, s2⟩ := cb_step p3 (by assumption) r4 r1 (by omega) c1 (j := zq 40) (by omega) (.inr ⟨h, rfl⟩) c2 r3 hx.1.1
    rw [qy902] at s1 s2
    exact ⟨⟨by omega, by omega, s1, s2⟩, by omega⟩
end Go.Proofs.Ytfcpbeolhlkmnaa.V
