/- Contracts: chains of payloads are read (program). -/
import Derived.Test.YtfcpbeolhlkmnaaVCa
import Derived.Test.YtfcpbeolhlkmnaaVNu
import Derived.Test.YtfcpbeolhlkmnaaVrf
set_option linter.unusedVariables false
set_option linter.unusedSimpArgs false
namespace Go.Proofs.Ytfcpbeolhlkmnaa.V
open Go.RowKit
set_option maxHeartbeats 8000000
set_option maxRecDepth 100000
/-- A payload that was read: it, the type that it names, what is behind it, what is wrong. -/
abbrev stpE : Shp := .st [rawE, .int .i64, .sl .byte, .int .i64]
abbrev StpT : Type := RawT × Int × List UInt8 × Int × Unit
def critF (x : UInt8) : Bool := !(bits .and .u8 (x.toNat : Int) 128 == 0)
def lenW (b : List UInt8) : Int := (numF b 2 2).1
def stpF (k : Int) (b : List UInt8) : StpT :=
  if b.length < 4 then (raw0, 0, [], 1, ())
  else if lenW b < 4 ∨ b.length < lenW b then (raw0, 0, [], 2, ())
  else ((k, critF (b.getD 1 0), (b.take (lenW b).toNat).drop 4, ()), ((b.getD 0 0).toNat : Int), b.drop (lenW b).toNat, 0, ())
theorem lenW_lt (b : List UInt8) : 0 ≤ lenW b ∧ lenW b < 65536 := ⟨numF_nn b 2 2, numF_lt b 2 2 2 (by decide)⟩
theorem stp_1 {k : Int} {b : List UInt8} (h : (b.length : Int) < 4) : (raw0, (0 : Int), ([] : List UInt8), (1 : Int), ()) = stpF k b := by
  unfold stpF; rw [if_pos (by omega)]
theorem stp_2 {k : Int} {b : List UInt8} (h : ¬ (b.length : Int) < 4) (h2 : (numF b 2 2).1 < 4 ∨ (numF b 2 2).1 > IntKind.u64.wrap (b.length : Int)) (hl : b.length ≤ 140737488355328) : (raw0, (0 : Int), ([] : List UInt8), (2 : Int), ()) = stpF k b := by
  rw [IntKind.wrap_u64] at h2
  unfold stpF lenW; rw [if_neg (by omega), if_pos (by omega)]
theorem stp_0 {k : Int} {b : List UInt8} (h : ¬ (b.length : Int) < 4) (h2 : ¬ (numF b 2 2).1 < 4) (h3 : ¬ (numF b 2 2).1 > IntKind.u64.wrap (b.length : Int)) (hl : b.length ≤ 140737488355328) :
    ((k, bits BinOp.and .u8 ((b.getD (Int.toNat 1) 0).toNat : Int) 128 != 0, [] ++ List.take ((numF b 2 2).1.toNat - Int.toNat 4) (List.drop (Int.toNat 4) b), ()), (((b.getD (Int.toNat 0) 0).toNat : Int) + 9223372036854775808) % 18446744073709551616 - 9223372036854775808, List.take ((b.length : Int).toNat - (numF b 2 2).1.toNat) (List.drop (numF b 2 2).1.toNat b), (0 : Int), ()) = stpF k b := by
  rw [IntKind.wrap_u64] at h3
  have hb := UInt8.toNat_lt (b.getD 0 0)
  unfold stpF lenW
  rw [if_neg (by omega), if_neg (by omega), show Int.toNat 0 = 0 from rfl, show Int.toNat 1 = 1 from rfl, show Int.toNat 4 = 4 from rfl, show (((b.getD 0 0).toNat : Int) + 9223372036854775808) % 18446744073709551616 - 9223372036854775808 = ((b.getD 0 0).toNat : Int) by omega,
    List.nil_append, List.take_of_length_le (i := (b.length : Int).toNat - _) (by rw [List.length_drop]; omega), List.drop_take]
  rfl
abbrev stpSp : Spec := fnSpecT [.int .i64, .sl .byte] [none, none] [stpE] [.own 5, .sh] [1] (fun _ => True) fun x y => y.1 = stpF x.1 x.2.1
def crC_t : SpecT := lf0 50 (numSp)
def crC : Cx := ⟨tt, qt, bt, st, crC_t, 0, 1000000000000000, fun _ => none, false, CxE.no⟩
theorem crC_si {E : Env} (h : E.ok) : SpecsOk Try.prog E (CxE.no) crC_t (fun _ => none) := ⟨(lf0_ok (wnum_sp h)), noI_ok _ _ _⟩
theorem crC_x {E : Env} (h : E.ok) : CxEOk Try.prog E (CxE.no) := CxE.no_ok _ _
theorem crC_cx (E : Env) (h : E.ok) (h1 : E.lo = 0) (h2 : E.hi = 1000000000000000) : Cx.ok crC Try.prog E := ⟨tt_ok, qt_ok, bt_ok, crC_si h, h, h1, h2, mixed_ok, crC_x h⟩
theorem crC_from (lo hi : Nat) (E : Env) (h : E.ok) (h1 : E.lo = lo) (h2 : E.hi = hi) : Cx.ok (Cx.from crC lo hi) Try.prog E := ⟨tt_ok, qt_ok, bt_ok, crC_si h, h, h1, h2, mixed_ok, crC_x h⟩
theorem crd_fn : hasFn Try.prog 52 := ⟨_, Try.func52, by rfl, by rfl⟩
theorem crd_sp {E : Env} (hE : E.ok) : SpecOk Try.prog E 52 stpSp := by
  refine spec_of_vcT (C := crC) crd_fn Try.func52 (by kernel_rfl) crC_cx (fun x hl hx => ?_) hE
  obtain ⟨k, b, u⟩ := x
  simp only [Shp.lims, Shp.lim] at hl
  have hn := lenW_lt b
  unfold lenW at hn
  cbv
  (repeat' (first | ((with_reducible refine And.intro (fun h => ?_) (fun h => ?_)) <;> (first | with_reducible exact (tf h (by assumption)).elim | with_reducible exact (tf (by assumption) h).elim | cbv)) | ((with_reducible show JoinT (fun s K => vc _ (Code.region _ _ true) s K) _ _ _ _ _); (with_reducible apply JoinT.mg2); (focus (cbv; (repeat' (first | ((with_reducible refine And.intro (fun h => ?_) (fun h => ?_)) <;> (first | with_reducible exact (tf h (by assumption)).elim | with_reducible exact (tf (by assumption) h).elim | cbv)) | ((with_reducible first | refine Cb.mk ?_ | refine Lz.mk ?_ | refine JoinT.left ?_ | refine AllT.mk (fun x hx => ?_)); cbv) | ((with_reducible refine Ob.mk (fun _ => ?_) ?_); rotate_left 1) | (with_reducible first | refine Mg.mk (Exists.intro ?_ (And.intro ?_ ?_)) | rfl | refine Fin.mk ?_ | exact True.intro | refine And.intro ?_ ?_))); (all_goals (try (have du : Unit := (); have dv : Unit := (); first | exact Goes.self (Ex2.mk ⟨dv, du, trivial, trivial, rfl⟩) | exact Goes.self (Ex2.mk ⟨x, du, hx, trivial, rfl⟩) | (rename_i xa hxa; exact Goes.self (Ex2.mk ⟨xa, x, hxa, hx, rfl⟩))))); (all_goals (fail_if_success (with_reducible first | show Goes _ _ _ _ | show (∃ _, unr _ _ _ _ _ _))))))) | ((with_reducible first | refine Cb.mk ?_ | refine Lz.mk ?_ | refine JoinT.left ?_ | refine AllT.mk (fun x hx => ?_)); cbv) | ((with_reducible refine Ob.mk (fun _ => ?_) ?_); rotate_left 1) | (with_reducible first | refine Mg.mk (Exists.intro ?_ (And.intro ?_ ?_)) | rfl | refine Fin.mk ?_ | exact True.intro | refine And.intro ?_ ?_)))
  all_goals first | (with_reducible show (∃ _, unr _ _ _ _ _ _); skip) | (with_reducible show Goes _ _ _ _; skip) | (with_reducible show JoinT _ _ _ _ _ _; skip) | (first | ((try dsimp only [Shp.D, Shp.Ds, Shp.dflt] at *); simp only [vem, veq, ne_eq, cmpI, arI, dvI, shI, SV.den, obLt, elemAt, obApp, partL, obPart, lowD, highD, mxOk, convL_self, zerosB, List.length_replicate, vln] at *; (try dsimp only [Shp.D, Shp.Ds, Shp.dflt, Shp.dflts] at *); done) | ((try dsimp only [Shp.D, Shp.Ds, Shp.dflt] at *); simp only [vem, veq, ne_eq, cmpI, arI, dvI, shI, SV.den, obLt, elemAt, obApp, partL, obPart, lowD, highD, mxOk, convL_self, zerosB, List.length_replicate, vln] at *; (try dsimp only [Shp.D, Shp.Ds, Shp.dflt, Shp.dflts] at *); omega) | ((try dsimp only [Shp.D, Shp.Ds, Shp.dflt] at *); simp only [vem, veq, ne_eq, cmpI, arI, dvI, shI, SV.den, obLt, elemAt, obApp, partL, obPart, lowD, highD, mxOk, convL_self, zerosB, List.length_replicate, vln] at *; (try dsimp only [Shp.D, Shp.Ds, Shp.dflt, Shp.dflts] at *); exact stp_1 h) | ((try dsimp only [Shp.D, Shp.Ds, Shp.dflt] at *); simp only [vem, veq, ne_eq, cmpI, arI, dvI, shI, SV.den, obLt, elemAt, obApp, partL, obPart, lowD, highD, mxOk, convL_self, zerosB, List.length_replicate, vln] at *; (try dsimp only [Shp.D, Shp.Ds, Shp.dflt, Shp.dflts] at *); exact stp_2 ‹_› (.inl h) hl.2.1.1) | ((try dsimp only [Shp.D, Shp.Ds, Shp.dflt] at *); simp only [vem, veq, ne_eq, cmpI, arI, dvI, shI, SV.den, obLt, elemAt, obApp, partL, obPart, lowD, highD, mxOk, convL_self, zerosB, List.length_replicate, vln] at *; (try dsimp only [Shp.D, Shp.Ds, Shp.dflt, Shp.dflts] at *); exact stp_2 ‹_› (.inr h) hl.2.1.1) | ((try dsimp only [Shp.D, Shp.Ds, Shp.dflt] at *); simp only [vem, veq, ne_eq, cmpI, arI, dvI, shI, SV.den, obLt, elemAt, obApp, partL, obPart, lowD, highD, mxOk, convL_self, zerosB, List.length_replicate, vln] at *; (try dsimp only [Shp.D, Shp.Ds, Shp.dflt, Shp.dflts] at *); exact stp_0 ‹_› ‹_› h hl.2.1.1) | ((try dsimp only [Shp.D, Shp.Ds, Shp.dflt] at *); simp only [vem, veq, ne_eq, cmpI, arI, dvI, shI, SV.den, obLt, elemAt, obApp, partL, obPart, lowD, highD, mxOk, convL_self, zerosB, List.length_replicate, vln] at *; (try dsimp only [Shp.D, Shp.Ds, Shp.dflt, Shp.dflts] at *); (try rw [IntKind.wrap_u64] at h); (try simp only [List.length_take, List.length_drop, and_true]); omega))
/-! Parse. -/
/-- What is read, with at most n payloads. -/
def parL : Nat → Int → List UInt8 → List RawT × Int × Int
  | 0, k, b => if k = 0 then (if b.length = 0 then ([], 0, 0) else ([], 0, 2)) else ([], 0, 10)
  | n + 1, k, b => if k = 0 then (if b.length = 0 then ([], 0, 0) else ([], 0, 2))
    else if (stpF k b).2.2.2.1 ≠ 0 then ([], 0, (stpF k b).2.2.2.1)
    else if lastF k = true then (if (stpF k b).2.2.1.length = 0 then ([(stpF k b).1], (stpF k b).2.1, 0) else ([], 0, 2))
    else if (parL n (stpF k b).2.1 (stpF k b).2.2.1).2.2 ≠ 0 then ([], 0, (parL n (stpF k b).2.1 (stpF k b).2.2.1).2.2)
    else ((stpF k b).1 :: (parL n (stpF k b).2.1 (stpF k b).2.2.1).1, (parL n (stpF k b).2.1 (stpF k b).2.2.1).2.1, 0)
def parF (first : Int) (b : List UInt8) : List RawT × Int × Int := if first < 0 ∨ 255 < first then ([], 0, 5) else parL 40 first b
/-- What is in front of the rest. -/
def preL (l : List RawT) (r : List RawT × Int × Int) : List RawT × Int × Int := if r.2.2 ≠ 0 then ([], 0, r.2.2) else (l ++ r.1, r.2.1, 0)
theorem pf_5 {k : Int} {b : List UInt8} (h : k < 0 ∨ k > 255) : (([] : List RawT), (0 : Int), (5 : Int)) = parF k b := by
  unfold parF; rw [if_pos (by omega)]
theorem stp_ty {k : Int} {b : List UInt8} {s : StpT} (hs : s = stpF k b) (h : s.2.2.2.1 = 0) : s.1.1 = k := by
  rw [hs] at h ⊢
  unfold stpF at h ⊢
  split
  · rename_i h1; rw [if_pos h1] at h; exact absurd h (by decide)
  · rename_i h1
    rw [if_neg h1] at h
    split
    · rename_i h2; rw [if_pos h2] at h; exact absurd h (by decide)
    · rfl
theorem stp_nx {k : Int} {b : List UInt8} {s : StpT} (hs : s = stpF k b) : 0 ≤ s.2.1 ∧ s.2.1 ≤ 255 := by
  rw [hs]
  have := UInt8.toNat_lt (b.getD 0 0)
  unfold stpF
  split
  · simp
  · split
    · simp
    · simp only; omega
theorem pl_in {k : Int} {bs : List UInt8} {r r' : List RawT × Int × Int} (h1 : ¬ k < 0) (h2 : ¬ 255 < k) (p7 : parL 40 k bs = r) (e : r' = r) : r' = parF k bs := by
  unfold parF; rw [if_neg (by omega), p7]; exact e
theorem pre_e {l : List RawT} {r : List RawT × Int × Int} (h : r.2.2 ≠ 0) : preL l r = ([], 0, r.2.2) := by unfold preL; rw [if_pos h]
theorem pre_0 {l : List RawT} {r : List RawT × Int × Int} (h : r.2.2 = 0) : preL l r = (l ++ r.1, r.2.1, 0) := by unfold preL; rw [if_neg (by omega)]
theorem parL_0 {k : Int} {b : List UInt8} (hk : ¬ k = 0) : parL 0 k b = ([], 0, 10) := by unfold parL; rw [if_neg hk]
theorem parL_k {n : Nat} {b : List UInt8} : parL n 0 b = if b.length = 0 then ([], 0, 0) else ([], 0, 2) := by
  cases n <;> (unfold parL; rw [if_pos rfl])
theorem parL_s {n : Nat} {k : Int} {b : List UInt8} {s : StpT} (hs : s = stpF k b) (hk : ¬ k = 0) : parL (n + 1) k b =
    if s.2.2.2.1 ≠ 0 then ([], 0, s.2.2.2.1)
    else if lastF k = true then (if s.2.2.1.length = 0 then ([s.1], s.2.1, 0) else ([], 0, 2))
    else preL [s.1] (parL n s.2.1 s.2.2.1) := by
  rw [hs]
  conv => lhs; unfold parL
  rw [if_neg hk]
  rfl
theorem pl_10 {l : List RawT} {k z : Int} {b : List UInt8} (hz : z = 40) (hk : ¬ k = 0) : ([], 0, 10) = preL l (parL (40 - z).toNat k b) := by
  rw [hz, show ((40 : Int) - 40).toNat = 0 from rfl, parL_0 hk]; rfl
theorem z_s {z : Int} (h : z ≤ 40) (hz : ¬ z = 40) : (40 - z).toNat = (40 - (z + 1)).toNat + 1 := by omega
theorem pl_e {l : List RawT} {k z : Int} {b : List UInt8} {s : StpT} (hs : s = stpF k b) (hk : ¬ k = 0) (hz' : z ≤ 40) (hz : ¬ z = 40) (he : ¬ s.2.2.2.1 = 0) : ([], 0, s.2.2.2.1) = preL l (parL (40 - z).toNat k b) := by
  rw [z_s hz' hz, parL_s hs hk, if_pos he, pre_e he]
theorem pl_2 {l : List RawT} {k z : Int} {b : List UInt8} {s : StpT} (hs : s = stpF k b) (hk : ¬ k = 0) (hz' : z ≤ 40) (hz : ¬ z = 40) (he : s.2.2.2.1 = 0) (hl : lastF k = true) (hr : (s.2.2.1.length : Int) > 0) : ([], 0, 2) = preL l (parL (40 - z).toNat k b) := by
  rw [z_s hz' hz, parL_s hs hk, if_neg (fun h => h he), if_pos hl, if_neg (by omega)]; rfl
theorem pl_1 {l : List RawT} {k z : Int} {b : List UInt8} {s : StpT} (hs : s = stpF k b) (hk : ¬ k = 0) (hz' : z ≤ 40) (hz : ¬ z = 40) (he : s.2.2.2.1 = 0) (hl : lastF k = true) (hr : ¬ (s.2.2.1.length : Int) > 0) : (l ++ [s.1], s.2.1, 0) = preL l (parL (40 - z).toNat k b) := by
  rw [z_s hz' hz, parL_s hs hk, if_neg (fun h => h he), if_pos hl, if_pos (by omega)]; rfl
theorem pre_pre {l m : List RawT} {r : List RawT × Int × Int} : preL l (preL m r) = preL (l ++ m) r := by
  unfold preL
  by_cases h : r.2.2 = 0
  · simp [h]
  · simp [h]
theorem pl_s {l : List RawT} {k z : Int} {b : List UInt8} {s : StpT} (hs : s = stpF k b) (hk : ¬ k = 0) (hz' : z ≤ 40) (hz : ¬ z = 40) (he : s.2.2.2.1 = 0) (hl : lastF k = false) : preL l (parL (40 - z).toNat k b) = preL (l ++ [s.1]) (parL (40 - (z + 1)).toNat s.2.1 s.2.2.1) := by
  rw [z_s hz' hz, parL_s hs hk, if_neg (fun h => h he), if_neg (by simp [hl]), pre_pre]
theorem pl_k2 {l : List RawT} {k : Int} {n : Nat} {b c : List UInt8} (hc : c = b) (hk : k = 0) (hr : (c.length : Int) > 0) : ([], 0, 2) = preL l (parL n k b) := by
  rw [hk, parL_k, if_neg (by rw [← hc]; omega)]; rfl
theorem pl_k1 {l : List RawT} {k : Int} {n : Nat} {b c : List UInt8} (hc : c = b) (hk : k = 0) (hr : ¬ (c.length : Int) > 0) : (l, 0, 0) = preL l (parL n k b) := by
  rw [hk, parL_k, if_pos (by rw [← hc]; omega)]
  unfold preL
  simp
theorem pl_c {k : Int} {b : List UInt8} {s : StpT} {p : Bool} {q : Prop} (hs : s = stpF k b) (he : s.2.2.2.1 = 0) (h1 : lastF s.1.1 = p) (h2 : lastF k = !p) : q := by
  rw [stp_ty hs he] at h1
  rw [h1] at h2
  cases p <;> cases h2
theorem parL_ne : ∀ (n : Nat) (k : Int) (b : List UInt8), (parL n k b).2.2 ≠ 0 → parL n k b = ([], 0, (parL n k b).2.2)
  | 0, k, b, h => by
    unfold parL at h ⊢
    split at h
    · rename_i hk
      rw [if_pos hk] at *
      split at h
      · exact absurd rfl h
      · rename_i hb; rw [if_neg hb]
    · rename_i hk; rw [if_neg hk]
  | n + 1, k, b, h => by
    unfold parL at h ⊢
    split at h
    · rename_i hk
      rw [if_pos hk]
      split at h
      · exact absurd rfl h
      · rename_i hb; rw [if_neg hb]
    · rename_i hk
      rw [if_neg hk]
      split at h
      · rename_i he; rw [if_pos he]
      · rename_i he
        rw [if_neg he]
        split at h
        · rename_i hl
          rw [if_pos hl]
          split at h
          · exact absurd rfl h
          · rename_i hb; rw [if_neg hb]
        · rename_i hl
          rw [if_neg hl]
          split at h
          · rename_i hb; rw [if_pos hb]
          · exact absurd rfl h
theorem pl_st {k z : Int} {l : List RawT} {b c bs : List UInt8} (h1 : ¬ k < 0) (h2 : ¬ 255 < k) (q4 : 0 = z) {z6 : Int} (q6 : k = z6) (ql : [] = l) (qb : bs = b) (qc : bs = c) :
    0 ≤ z ∧ z ≤ 40 ∧ 0 ≤ z6 ∧ z6 ≤ 255 ∧ c = b ∧ (l.length : Int) = z ∧ parL 40 k bs = preL l (parL (40 - z).toNat z6 b) := by
  subst q4 q6 ql qb qc
  refine ⟨by omega, by omega, by omega, by omega, rfl, rfl, ?_⟩
  show _ = preL [] (parL 40 k bs)
  unfold preL
  split
  · rename_i h
    exact parL_ne _ _ _ h
  · rename_i h
    have h : (parL 40 k bs).2.2 = 0 := by omega
    rw [List.nil_append]
    exact Prod.ext rfl (Prod.ext rfl h)
theorem pl_g {L y yq : List RawT} {r0 : List RawT × Int × Int} {z zq k z6 : Int} {b b2 b3 : List UInt8} {s : StpT} (p1 : 0 ≤ z) (p2 : z ≤ 40) (p6 : (y.length : Int) = z) (p7 : r0 = preL y (parL (40 - z).toNat k b))
    (q4 : (z + 1 + 9223372036854775808) % 18446744073709551616 - 9223372036854775808 = zq) (q6 : s.2.1 = z6) (qy : y ++ [s.1] = yq) (q2 : s.2.2.1 = b2) (q3 : s.2.2.1 = b3)
    (hs : s = stpF k b) (hk : ¬ k = 0) (hz : ¬ z = 40) (he : s.2.2.2.1 = 0) (hl : lastF k = false) :
    (0 ≤ zq ∧ zq ≤ 40 ∧ 0 ≤ z6 ∧ z6 ≤ 255 ∧ b3 = b2 ∧ (yq.length : Int) = zq ∧ r0 = preL yq (parL (40 - zq).toNat z6 b2)) ∧ (41 - zq).toNat < (41 - z).toNat := by
  have hn := stp_nx hs
  have hp := pl_s (l := y) hs hk p2 hz he hl
  rw [show (z + 1 + 9223372036854775808) % 18446744073709551616 - 9223372036854775808 = z + 1 by omega] at q4
  subst q4 q6 qy q2 q3
  refine ⟨⟨by omega, by omega, hn.1, hn.2, rfl, ?_, p7.trans hp⟩, by omega⟩
  rw [List.length_append, List.length_singleton]
  omega
abbrev lastS : Spec := fnFn [.int .i64] [.bool] (fun _ => True) fun x => (lastF x.1, ())
def cp1C_t : SpecT := nd0 52 (lf0 48 (lastS)) (lf0 52 (stpSp))
def cp1C : Cx := ⟨tt, qt, bt, st, cp1C_t, 0, 1000000000000000, fun _ => none, false, CxE.no⟩
theorem cp1C_si {E : Env} (h : E.ok) : SpecsOk Try.prog E (CxE.no) cp1C_t (fun _ => none) := ⟨(nd0_ok (lf0_ok (clast_sp h)) (lf0_ok (crd_sp h))), noI_ok _ _ _⟩
theorem cp1C_x {E : Env} (h : E.ok) : CxEOk Try.prog E (CxE.no) := CxE.no_ok _ _
theorem cp1C_cx (E : Env) (h : E.ok) (h1 : E.lo = 0) (h2 : E.hi = 1000000000000000) : Cx.ok cp1C Try.prog E := ⟨tt_ok, qt_ok, bt_ok, cp1C_si h, h, h1, h2, mixed_ok, cp1C_x h⟩
theorem cp1C_from (lo hi : Nat) (E : Env) (h : E.ok) (h1 : E.lo = lo) (h2 : E.hi = hi) : Cx.ok (Cx.from cp1C lo hi) Try.prog E := ⟨tt_ok, qt_ok, bt_ok, cp1C_si h, h, h1, h2, mixed_ok, cp1C_x h⟩
def cp0C_t : SpecT := lf0 48 (lastS)
def cp0C : Cx := ⟨tt, qt, bt, st, cp0C_t, 0, 1000000000000000, fun _ => none, false, CxE.no⟩
theorem cp0C_si {E : Env} (h : E.ok) : SpecsOk Try.prog E (CxE.no) cp0C_t (fun _ => none) := ⟨(lf0_ok (clast_sp h)), noI_ok _ _ _⟩
theorem cp0C_x {E : Env} (h : E.ok) : CxEOk Try.prog E (CxE.no) := CxE.no_ok _ _
theorem cp0C_cx (E : Env) (h : E.ok) (h1 : E.lo = 0) (h2 : E.hi = 1000000000000000) : Cx.ok cp0C Try.prog E := ⟨tt_ok, qt_ok, bt_ok, cp0C_si h, h, h1, h2, mixed_ok, cp0C_x h⟩
theorem cp0C_from (lo hi : Nat) (E : Env) (h : E.ok) (h1 : E.lo = lo) (h2 : E.hi = hi) : Cx.ok (Cx.from cp0C lo hi) Try.prog E := ⟨tt_ok, qt_ok, bt_ok, cp0C_si h, h, h1, h2, mixed_ok, cp0C_x h⟩
def cppC_t : SpecT := fun _ => none
def cppC : Cx := ⟨tt, qt, bt, st, cppC_t, 0, 1000000000000000, fun _ => none, false, CxE.no⟩
theorem cppC_si {E : Env} (h : E.ok) : SpecsOk Try.prog E (CxE.no) cppC_t (fun _ => none) := ⟨(fun t f h => by cases h), noI_ok _ _ _⟩
theorem cppC_x {E : Env} (h : E.ok) : CxEOk Try.prog E (CxE.no) := CxE.no_ok _ _
theorem cppC_cx (E : Env) (h : E.ok) (h1 : E.lo = 0) (h2 : E.hi = 1000000000000000) : Cx.ok cppC Try.prog E := ⟨tt_ok, qt_ok, bt_ok, cppC_si h, h, h1, h2, mixed_ok, cppC_x h⟩
theorem cppC_from (lo hi : Nat) (E : Env) (h : E.ok) (h1 : E.lo = lo) (h2 : E.hi = hi) : Cx.ok (Cx.from cppC lo hi) Try.prog E := ⟨tt_ok, qt_ok, bt_ok, cppC_si h, h, h1, h2, mixed_ok, cppC_x h⟩
def cpC_t : SpecT := fun _ => none
def cpC_i : SpecT := lf0 47 (inlSpec cppC Try.f47)
def cpC : Cx := ⟨tt, qt, bt, st, cpC_t, 0, 1000000000000000, cpC_i, true, CxE.no⟩
theorem cpC_si {E : Env} (h : E.ok) : SpecsOk Try.prog E (CxE.no) cpC_t (cpC_i) := ⟨(fun t f h => by cases h), (lf0_ok (inl_ok h cppC_from Try.func47 ⟨by rfl, by rfl⟩ (by kernel_rfl)))⟩
theorem cpC_x {E : Env} (h : E.ok) : CxEOk Try.prog E (CxE.no) := CxE.no_ok _ _
theorem cpC_cx (E : Env) (h : E.ok) (h1 : E.lo = 0) (h2 : E.hi = 1000000000000000) : Cx.ok cpC Try.prog E := ⟨tt_ok, qt_ok, bt_ok, cpC_si h, h, h1, h2, mixed_ok, cpC_x h⟩
theorem cpC_from (lo hi : Nat) (E : Env) (h : E.ok) (h1 : E.lo = lo) (h2 : E.hi = hi) : Cx.ok (Cx.from cpC lo hi) Try.prog E := ⟨tt_ok, qt_ok, bt_ok, cpC_si h, h, h1, h2, mixed_ok, cpC_x h⟩
theorem cpR_ok : RfOk Try.prog ⟨cp1C, cp0C, 51, Try.f51⟩ := ⟨cp1C_from, cp0C_from, fun _ h => h, fun _ h => h, Try.func51, ⟨by rfl, by rfl⟩, by kernel_rfl⟩
abbrev cpaSp : Spec := fnSpecT [.int .i64, .sl .byte] [none, none] [.sl rawE, .int .i64, .int .i64] [.sh] [1] (fun _ => True) fun x y => (y.1, y.2.1, y.2.2.1) = parF x.1 x.2.1
theorem cpa_fn : hasFn Try.prog 34 := ⟨_, Try.func34, by rfl, by rfl⟩
theorem cpa_sp {E : Env} (hE : E.ok) : SpecOk Try.prog E 34 cpaSp := by
  refine spec_of_vcTR (C := cpC) cpa_fn Try.func34 (by kernel_rfl) cpR_ok cpC_cx (fun x hl hx => ?_) hE
  obtain ⟨k, bs, u⟩ := x
  simp only [Shp.lims, Shp.lim] at hl
  cbv
  (repeat' (first | ((with_reducible refine And.intro (fun h => ?_) (fun h => ?_)) <;> (first | with_reducible exact (tf h (by assumption)).elim | with_reducible exact (tf (by assumption) h).elim | cbv)) | ((with_reducible show JoinT (fun s K => vc _ (Code.region _ _ true) s K) _ _ _ _ _); (with_reducible apply JoinT.mg2); (focus (cbv; (repeat' (first | ((with_reducible refine And.intro (fun h => ?_) (fun h => ?_)) <;> (first | with_reducible exact (tf h (by assumption)).elim | with_reducible exact (tf (by assumption) h).elim | cbv)) | ((with_reducible first | refine Cb.mk ?_ | refine Lz.mk ?_ | refine JoinT.left ?_ | refine AllT.mk (fun x hx => ?_)); cbv) | ((with_reducible refine Ob.mk (fun _ => ?_) ?_); rotate_left 1) | (with_reducible first | refine Mg.mk (Exists.intro ?_ (And.intro ?_ ?_)) | rfl | refine Fin.mk ?_ | exact True.intro | refine And.intro ?_ ?_))); (all_goals (try (have du : Unit := (); have dv : Unit := (); first | exact Goes.self (Ex2.mk ⟨dv, du, trivial, trivial, rfl⟩) | exact Goes.self (Ex2.mk ⟨x, du, hx, trivial, rfl⟩) | (rename_i xa hxa; exact Goes.self (Ex2.mk ⟨xa, x, hxa, hx, rfl⟩))))); (all_goals (fail_if_success (with_reducible first | show Goes _ _ _ _ | show (∃ _, unr _ _ _ _ _ _))))))) | ((with_reducible first | refine Cb.mk ?_ | refine Lz.mk ?_ | refine JoinT.left ?_ | refine AllT.mk (fun x hx => ?_)); cbv) | ((with_reducible refine Ob.mk (fun _ => ?_) ?_); rotate_left 1) | (with_reducible first | refine Mg.mk (Exists.intro ?_ (And.intro ?_ ?_)) | rfl | refine Fin.mk ?_ | exact True.intro | refine And.intro ?_ ?_)))
  rotate_right 1
  with_reducible refine AllL.mk (fun r0 l D => ?_)
  cbv
  (repeat' (first | ((with_reducible refine And.intro (fun h => ?_) (fun h => ?_)) <;> (first | with_reducible exact (tf h (by assumption)).elim | with_reducible exact (tf (by assumption) h).elim | cbv)) | ((with_reducible show JoinT (fun s K => vc _ (Code.region _ _ true) s K) _ _ _ _ _); (with_reducible apply JoinT.mg2); (focus (cbv; (repeat' (first | ((with_reducible refine And.intro (fun h => ?_) (fun h => ?_)) <;> (first | with_reducible exact (tf h (by assumption)).elim | with_reducible exact (tf (by assumption) h).elim | cbv)) | ((with_reducible first | refine Cb.mk ?_ | refine Lz.mk ?_ | refine JoinT.left ?_ | refine AllT.mk (fun x hx => ?_)); cbv) | ((with_reducible refine Ob.mk (fun _ => ?_) ?_); rotate_left 1) | (with_reducible first | refine Mg.mk (Exists.intro ?_ (And.intro ?_ ?_)) | rfl | refine Fin.mk ?_ | exact True.intro | refine And.intro ?_ ?_))); (all_goals (try (have du : Unit := (); have dv : Unit := (); first | exact Goes.self (Ex2.mk ⟨dv, du, trivial, trivial, rfl⟩) | exact Goes.self (Ex2.mk ⟨x, du, hx, trivial, rfl⟩) | (rename_i xa hxa; exact Goes.self (Ex2.mk ⟨xa, x, hxa, hx, rfl⟩))))); (all_goals (fail_if_success (with_reducible first | show Goes _ _ _ _ | show (∃ _, unr _ _ _ _ _ _))))))) | ((with_reducible first | refine Cb.mk ?_ | refine Lz.mk ?_ | refine JoinT.left ?_ | refine AllT.mk (fun x hx => ?_)); cbv) | ((with_reducible refine Ob.mk (fun _ => ?_) ?_); rotate_left 1) | (with_reducible first | refine Mg.mk (Exists.intro ?_ (And.intro ?_ ?_)) | rfl | refine Fin.mk ?_ | exact True.intro | refine And.intro ?_ ?_)))
  all_goals first | (with_reducible show (∃ _, unr _ _ _ _ _ _); skip) | (with_reducible show Goes _ _ _ _; skip) | (with_reducible show JoinT _ _ _ _ _ _; skip) | (first | ((try dsimp only [Shp.D, Shp.Ds, Shp.dflt] at *); simp only [vem, veq, ne_eq, cmpI, arI, dvI, shI, SV.den, obLt, elemAt, obApp, partL, obPart, lowD, highD, mxOk, convL_self, zerosB, List.length_replicate, vln] at *; (try dsimp only [Shp.D, Shp.Ds, Shp.dflt, Shp.dflts] at *); exact pf_5 (.inl h)) | ((try dsimp only [Shp.D, Shp.Ds, Shp.dflt] at *); simp only [vem, veq, ne_eq, cmpI, arI, dvI, shI, SV.den, obLt, elemAt, obApp, partL, obPart, lowD, highD, mxOk, convL_self, zerosB, List.length_replicate, vln] at *; (try dsimp only [Shp.D, Shp.Ds, Shp.dflt, Shp.dflts] at *); exact pf_5 (.inr h)))
  have h1 := ‹(BE.cmp BinOp.lss _ _).den = false›
  have h2 := ‹(BE.cmp BinOp.gtr _ _).den = false›
  simp only [vem, veq, ne_eq, cmpI, arI, dvI, shI, SV.den] at h1 h2
  with_reducible refine loop_hv [(109056, 920001, 32, rawE), (6533632, 900002, 5, .byte), (68096, 900003, 5, .byte)] (rangeN 5 29) [101960, 102024, 1000, 1640] [920001, 900002, 900003] (fun z b t y => 0 ≤ z 4 ∧ z 4 ≤ 40 ∧ 0 ≤ z 6529536 ∧ z 6529536 ≤ 255 ∧ y 900003 .byte = y 900002 .byte ∧ ((y 920001 rawE).length : Int) = z 4 ∧ parL 40 k bs = preL (y 920001 rawE) (parL (40 - z 4).toNat (z 6529536) (y 900002 .byte))) (fun z b t y => (41 - z 4).toNat) (by cbv) (by cbv) ?_ ?_ (fun z1 b1 t1 u1 y1 R1 hP1 hR1 => ?_)
  · refine EndOk.mk (by cbv) (by cbv) (by cbv; repeat' (first | exact True.intro | exact rfl | with_reducible refine And.intro ?_ ?_)) (by cbv; repeat' (first | exact True.intro | exact rfl | with_reducible refine And.intro ?_ ?_)) (by cbv; repeat' (first | exact True.intro | exact rfl | with_reducible refine And.intro ?_ ?_))
  · intro zq bq tq yq hUq
    have q4 := hUq.z 4
    cbv at q4
    replace q4 := q4.eq
    simp only [atI, vem, veq, ne_eq, cmpI, arI, dvI, shI, SV.den] at q4
    have q6529536 := hUq.z 6529536
    cbv at q6529536
    replace q6529536 := q6529536.eq
    simp only [atI, vem, veq, ne_eq, cmpI, arI, dvI, shI, SV.den] at q6529536
    have qy920001 := hUq.y 920001 (rawE)
    cbv at qy920001
    replace qy920001 := qy920001.eq
    simp only [atY, convL_self, vem, veq, ne_eq, cmpI, arI, dvI, shI, SV.den] at qy920001
    have qy900002 := hUq.y 900002 (.byte)
    cbv at qy900002
    replace qy900002 := qy900002.eq
    simp only [atY, convL_self, vem, veq, ne_eq, cmpI, arI, dvI, shI, SV.den] at qy900002
    have qy900003 := hUq.y 900003 (.byte)
    cbv at qy900003
    replace qy900003 := qy900003.eq
    simp only [atY, convL_self, vem, veq, ne_eq, cmpI, arI, dvI, shI, SV.den] at qy900003
    clear hUq
    try dsimp only [Shp.D, Shp.Ds, Shp.dflt] at *
    try simp only [vem, veq, ne_eq, cmpI, arI, dvI, shI, SV.den, convL_self] at *
    exact pl_st h1 h2 q4 q6529536 qy920001 qy900002 qy900003
  obtain ⟨p1, p2, p3, p4, p5, p6, p7⟩ := hP1
  cbv
  (repeat' (first | ((with_reducible refine And.intro (fun h => ?_) (fun h => ?_)) <;> (first | with_reducible exact (tf h (by assumption)).elim | with_reducible exact (tf (by assumption) h).elim | cbv)) | ((with_reducible show JoinT (fun s K => vc _ (Code.region _ _ true) s K) _ _ _ _ _); (with_reducible apply JoinT.mg2); (focus (cbv; (repeat' (first | ((with_reducible refine And.intro (fun h => ?_) (fun h => ?_)) <;> (first | with_reducible exact (tf h (by assumption)).elim | with_reducible exact (tf (by assumption) h).elim | cbv)) | ((with_reducible first | refine Cb.mk ?_ | refine Lz.mk ?_ | refine JoinT.left ?_ | refine AllT.mk (fun x hx => ?_)); cbv) | ((with_reducible refine Ob.mk (fun _ => ?_) ?_); rotate_left 1) | (with_reducible first | refine Mg.mk (Exists.intro ?_ (And.intro ?_ ?_)) | rfl | refine Fin.mk ?_ | exact True.intro | refine And.intro ?_ ?_))); (all_goals (try (have du : Unit := (); have dv : Unit := (); first | exact Goes.self (Ex2.mk ⟨dv, du, trivial, trivial, rfl⟩) | exact Goes.self (Ex2.mk ⟨x, du, hx, trivial, rfl⟩) | (rename_i xa hxa; exact Goes.self (Ex2.mk ⟨xa, x, hxa, hx, rfl⟩))))); (all_goals (fail_if_success (with_reducible first | show Goes _ _ _ _ | show (∃ _, unr _ _ _ _ _ _))))))) | ((with_reducible first | refine Cb.mk ?_ | refine Lz.mk ?_ | refine JoinT.left ?_ | refine AllT.mk (fun x hx => ?_)); cbv) | ((with_reducible refine Ob.mk (fun _ => ?_) ?_); rotate_left 1) | (with_reducible first | refine Mg.mk (Exists.intro ?_ (And.intro ?_ ?_)) | rfl | refine Fin.mk ?_ | exact True.intro | refine And.intro ?_ ?_)))
  all_goals first | (with_reducible show (∃ _, unr _ _ _ _ _ _); skip) | (with_reducible show Goes _ _ _ _; skip) | (with_reducible show JoinT _ _ _ _ _ _; skip) | (first | ((try dsimp only [Shp.D, Shp.Ds, Shp.dflt] at *); simp only [vem, veq, ne_eq, cmpI, arI, dvI, shI, SV.den, obLt, elemAt, obApp, partL, obPart, lowD, highD, mxOk, convL_self, zerosB, List.length_replicate, vln] at *; (try dsimp only [Shp.D, Shp.Ds, Shp.dflt, Shp.dflts] at *); done) | ((try dsimp only [Shp.D, Shp.Ds, Shp.dflt] at *); simp only [vem, veq, ne_eq, cmpI, arI, dvI, shI, SV.den, obLt, elemAt, obApp, partL, obPart, lowD, highD, mxOk, convL_self, zerosB, List.length_replicate, vln] at *; (try dsimp only [Shp.D, Shp.Ds, Shp.dflt, Shp.dflts] at *); omega) | ((try dsimp only [Shp.D, Shp.Ds, Shp.dflt] at *); simp only [vem, veq, ne_eq, cmpI, arI, dvI, shI, SV.den, obLt, elemAt, obApp, partL, obPart, lowD, highD, mxOk, convL_self, zerosB, List.length_replicate, vln] at *; (try dsimp only [Shp.D, Shp.Ds, Shp.dflt, Shp.dflts] at *); exact pl_in h1 h2 p7 (pl_10 ‹_› ‹_›)) | ((try dsimp only [Shp.D, Shp.Ds, Shp.dflt] at *); simp only [vem, veq, ne_eq, cmpI, arI, dvI, shI, SV.den, obLt, elemAt, obApp, partL, obPart, lowD, highD, mxOk, convL_self, zerosB, List.length_replicate, vln] at *; (try dsimp only [Shp.D, Shp.Ds, Shp.dflt, Shp.dflts] at *); exact pl_in h1 h2 p7 (pl_e hx.1 ‹_› p2 ‹_› ‹_›)) | ((try dsimp only [Shp.D, Shp.Ds, Shp.dflt] at *); simp only [vem, veq, ne_eq, cmpI, arI, dvI, shI, SV.den, obLt, elemAt, obApp, partL, obPart, lowD, highD, mxOk, convL_self, zerosB, List.length_replicate, vln] at *; (try dsimp only [Shp.D, Shp.Ds, Shp.dflt, Shp.dflts] at *); exact pl_c hx.1 ‹_› (p := false) ‹_› ‹_›) | ((try dsimp only [Shp.D, Shp.Ds, Shp.dflt] at *); simp only [vem, veq, ne_eq, cmpI, arI, dvI, shI, SV.den, obLt, elemAt, obApp, partL, obPart, lowD, highD, mxOk, convL_self, zerosB, List.length_replicate, vln] at *; (try dsimp only [Shp.D, Shp.Ds, Shp.dflt, Shp.dflts] at *); exact pl_c hx.1 ‹_› (p := true) ‹_› ‹_›) | ((try dsimp only [Shp.D, Shp.Ds, Shp.dflt] at *); simp only [vem, veq, ne_eq, cmpI, arI, dvI, shI, SV.den, obLt, elemAt, obApp, partL, obPart, lowD, highD, mxOk, convL_self, zerosB, List.length_replicate, vln] at *; (try dsimp only [Shp.D, Shp.Ds, Shp.dflt, Shp.dflts] at *); exact pl_in h1 h2 p7 (pl_2 hx.1 ‹_› p2 ‹_› ‹_› ‹_› ‹_›)) | ((try dsimp only [Shp.D, Shp.Ds, Shp.dflt] at *); simp only [vem, veq, ne_eq, cmpI, arI, dvI, shI, SV.den, obLt, elemAt, obApp, partL, obPart, lowD, highD, mxOk, convL_self, zerosB, List.length_replicate, vln] at *; (try dsimp only [Shp.D, Shp.Ds, Shp.dflt, Shp.dflts] at *); exact pl_in h1 h2 p7 (pl_1 hx.1 ‹_› p2 ‹_› ‹_› ‹_› ‹_›)) | ((try dsimp only [Shp.D, Shp.Ds, Shp.dflt] at *); simp only [vem, veq, ne_eq, cmpI, arI, dvI, shI, SV.den, obLt, elemAt, obApp, partL, obPart, lowD, highD, mxOk, convL_self, zerosB, List.length_replicate, vln] at *; (try dsimp only [Shp.D, Shp.Ds, Shp.dflt, Shp.dflts] at *); exact pl_in h1 h2 p7 (pl_k2 p5 ‹_› ‹_›)) | ((try dsimp only [Shp.D, Shp.Ds, Shp.dflt] at *); simp only [vem, veq, ne_eq, cmpI, arI, dvI, shI, SV.den, obLt, elemAt, obApp, partL, obPart, lowD, highD, mxOk, convL_self, zerosB, List.length_replicate, vln] at *; (try dsimp only [Shp.D, Shp.Ds, Shp.dflt, Shp.dflts] at *); exact pl_in h1 h2 p7 (pl_k1 p5 ‹_› ‹_›)) | (try ((try dsimp only [Shp.D, Shp.Ds, Shp.dflt] at *); simp only [vem, veq, ne_eq, cmpI, arI, dvI, shI, SV.den, obLt, elemAt, obApp, partL, obPart, lowD, highD, mxOk, convL_self, zerosB, List.length_replicate, vln] at *; (try dsimp only [Shp.D, Shp.Ds, Shp.dflt, Shp.dflts] at *))))
  · exfalso
    clear p5 p6 p7
    (try dsimp only [Shp.D, Shp.Ds, Shp.dflt] at *); simp only [vem, veq, ne_eq, cmpI, arI, dvI, shI, SV.den, obLt, elemAt, obApp, partL, obPart, lowD, highD, mxOk, convL_self, zerosB, List.length_replicate, vln] at *; (try dsimp only [Shp.D, Shp.Ds, Shp.dflt, Shp.dflts] at *)
    exact pl_c hx.1 ‹_› (p := true) ‹_› ‹_›
  · with_reducible refine hR1 _ ?_ (fun zq bq tq yq hUq => ?_)
    · refine EndOk.mk (by cbv) (by cbv) (by cbv; repeat' (first | exact True.intro | exact rfl | with_reducible refine And.intro ?_ ?_)) (by cbv; repeat' (first | exact True.intro | exact rfl | with_reducible refine And.intro ?_ ?_)) (by cbv; repeat' (first | exact True.intro | exact rfl | with_reducible refine And.intro ?_ ?_))
    have q4 := hUq.z 4
    cbv at q4
    replace q4 := q4.eq
    simp only [atI, vem, veq, ne_eq, cmpI, arI, dvI, shI, SV.den] at q4
    have q6529536 := hUq.z 6529536
    cbv at q6529536
    replace q6529536 := q6529536.eq
    simp only [atI, vem, veq, ne_eq, cmpI, arI, dvI, shI, SV.den] at q6529536
    have qy920001 := hUq.y 920001 (rawE)
    cbv at qy920001
    replace qy920001 := qy920001.eq
    simp only [atY, convL_self, vem, veq, ne_eq, cmpI, arI, dvI, shI, SV.den] at qy920001
    have qy900002 := hUq.y 900002 (.byte)
    cbv at qy900002
    replace qy900002 := qy900002.eq
    simp only [atY, convL_self, vem, veq, ne_eq, cmpI, arI, dvI, shI, SV.den] at qy900002
    have qy900003 := hUq.y 900003 (.byte)
    cbv at qy900003
    replace qy900003 := qy900003.eq
    simp only [atY, convL_self, vem, veq, ne_eq, cmpI, arI, dvI, shI, SV.den] at qy900003
    clear hUq hR1
    try dsimp only [Shp.D, Shp.Ds, Shp.dflt] at *
    try simp only [vem, veq, ne_eq, cmpI, arI, dvI, shI, SV.den, elemAt, convL_self] at *
    try dsimp only [Shp.D, Shp.Ds, Shp.dflt, Shp.dflts] at *
    clear h1 h2
    exact pl_g (L := []) p1 p2 p6 p7 q4 q6529536 qy920001 qy900002 qy900003 hx.1 ‹_› ‹_› ‹_› ‹_›
end Go.Proofs.Ytfcpbeolhlkmnaa.V
