import Derived.Test.YtkifmppmfkpfbaaGreatW28
import Derived.Test.YtkifmppmfkpfbaaGreatW24
import Derived.Test.YtkifmppmfkpfbaaGreatW23
import Derived.Test.YtkifmppmfkpfbaaGreatW27
import Derived.Test.YtkifmppmfkpfbaaGreatW18
import Derived.Test.YtkifmppmfkpfbaaGreatW21
import Derived.Test.YtkifmppmfkpfbaaGreatW26
import Derived.Test.YtkifmppmfkpfbaaGreatW17
import Derived.LoopTactic
set_option linter.unusedVariables false
set_option linter.unusedSimpArgs false
namespace Go.Proofs.YtkifmppmfkpfbaaGreat.V.Ch
open Go.RowKit
section
set_option maxHeartbeats 8000000
set_option maxRecDepth 100000
abbrev stpE : Shp := .st [rawE, .int .i64, .sl .byte, .int .i64]
abbrev StpT : Type := RawT × Int × List UInt8 × Int × Unit
def critF (x : UInt8) : Bool := !(bits .and .u8 (x.toNat : Int) 128 == 0)
def lenW (b : List UInt8) : Int := (numF b 2 2).1
def stpF (k : Int) (b : List UInt8) : StpT :=
 if b.length < 4 then (raw0, 0, [], 1, ())
 else if lenW b < 4 ∨ b.length < lenW b then (raw0, 0, [], 2, ())
 else ((k, critF (b.getD 1 0), (b.take (lenW b).toNat).drop 4, ()), ((b.getD 0 0).toNat : Int), b.drop (lenW b).toNat, 0, ())
theorem lenW_lt (b : List UInt8) : 0 ≤ lenW b ∧ lenW b < 65536 := ⟨numF_nn b 2 2, numF_lt b 2 2 2 (by decide)⟩
theorem stp_1 {k : Int} {b : List UInt8} (h : (b.length : Int) < 4) : (raw0, (0 : Int), ([] : List UInt8), (1 : Int), ()) = stpF k b := by
 unfold stpF; rw [if_pos (by omega)]
theorem stp_2 {k : Int} {b : List UInt8} (h : ¬ (b.length : Int) < 4) (h2 : (numF b 2 2).1 < 4 ∨ (numF b 2 2).1 > IntKind.u64.wrap (b.length : Int)) (hl : b.length ≤ 140737488355328) : (raw0, (0 : Int), ([] : List UInt8), (2 : Int), ()) = stpF k b := by
 rw [IntKind.wrap_u64] at h2
 unfold stpF lenW; rw [if_neg (by omega), if_pos (by omega)]
theorem stp_0 {k : Int} {b : List UInt8} (h : ¬ (b.length : Int) < 4) (h2 : ¬ (numF b 2 2).1 < 4) (h3 : ¬ (numF b 2 2).1 > IntKind.u64.wrap (b.length : Int)) (hl : b.length ≤ 140737488355328) :
    ((k, bits BinOp.and .u8 ((b.getD (Int.toNat 1) 0).toNat : Int) 128 != 0, [] ++ List.take ((numF b 2 2).1.toNat - Int.toNat 4) (List.drop (Int.toNat 4) b), ()), (((b.getD (Int.toNat 0) 0).toNat : Int) + 9223372036854775808) % 18446744073709551616 - 9223372036854775808, List.take ((b.length : Int).toNat - (numF b 2 2).1.toNat) (List.drop (numF b 2 2).1.toNat b), (0 : Int), ()) = stpF k b := by
 rw [IntKind.wrap_u64] at h3
 have hb := UInt8.toNat_lt (b.getD 0 0)
 unfold stpF lenW
 rw [if_neg (by omega), if_neg (by omega), show Int.toNat 0 = 0 from rfl, show Int.toNat 1 = 1 from rfl, show Int.toNat 4 = 4 from rfl, show (((b.getD 0 0).toNat : Int) + 9223372036854775808) % 18446744073709551616 - 9223372036854775808 = ((b.getD 0 0).toNat : Int) by omega,
  List.nil_append, List.take_of_length_le (i := (b.length : Int).toNat - _) (by rw [List.length_drop]; omega), List.drop_take]
 rfl
abbrev stpSp : Spec := fnSpecT [.int .i64, .sl .byte] [none, none] [stpE] [.own 5, .sh] [1] (fun _ => True) fun x y => y.1 = stpF x.1 x.2.1
def crC_t : SpecT := lf0 86 (numSp)
def crC : Cx := ⟨tt, qt, bt, st, crC_t, 0, 1000000000000000, fun _ => none, false, CxE.no, []⟩
theorem crC_si {E : Env} (h : E.ok) : SpecsOk Tryz.prog E (CxE.no) crC_t (fun _ => none) := ⟨(lf0_ok (.inl (wnum_sp h))), noI_ok _ _ _⟩
theorem crC_x {E : Env} (h : E.ok) : CxEOk Tryz.prog E (CxE.no) := CxE.no_ok _ _
theorem crC_cx (E : Env) (h : E.ok) (h1 : E.lo = 0) (h2 : E.hi = 1000000000000000) : Cx.ok crC Tryz.prog E := ⟨tt_ok, qt_ok, bt_ok, crC_si h, h, h1, h2, mixed_ok, crC_x h⟩
theorem crd_fn : hasFn Tryz.prog 80 := ⟨_, Tryz.func80, by rfl, by rfl⟩
theorem crd_sp {E : Env} (hE : E.ok) : SpecOk Tryz.prog E 80 stpSp := by
 refine spec_of_vcT (C := crC) crd_fn Tryz.func80 (by kernel_rfl) crC_cx (fun x hl hx => ?_) hE
 obtain ⟨k, b, u⟩ := x
 simp only [Shp.lims, Shp.lim] at hl
 have hn := lenW_lt b
 unfold lenW at hn
 cbv
 (repeat' (first|((with_reducible apply And.intro <;> intro h) <;> (first|(with_reducible first|exact (tf h ‹_›).elim|exact (tf ‹_› h).elim)|cbv)) | ((with_reducible show JoinT (fun s K => vc _ (Code.region _ _ true) s K) _ _ _ _ _ _); (with_reducible apply JoinT.mg2); (focus (cbv; (repeat' (first|((with_reducible apply And.intro <;> intro h) <;> (first|(with_reducible first|exact (tf h ‹_›).elim|exact (tf ‹_› h).elim)|cbv))|((with_reducible first|apply Cb.mk|apply Lz.mk|apply JoinT.left|(apply AllT.mk;intro x hx));cbv)|((with_reducible refine Ob.mk (fun _ => ?_) ?_);rotate_left 1)|(with_reducible first|refine Mg.mk (Exists.intro ?_ (And.intro ?_ ?_))|rfl|apply Fin.mk|exact True.intro|apply And.intro))); (all_goals (try (have du : Unit := (); have dv : Unit := (); first | exact Goes.self (Ex2.mk ⟨dv, du, trivial, trivial, rfl⟩) | exact Goes.self (Ex2.mk ⟨x, du, hx, trivial, rfl⟩) | (rename_i xa hxa; exact Goes.self (Ex2.mk ⟨xa, x, hxa, hx, rfl⟩))))); (all_goals (fail_if_success (with_reducible first | show Goes _ _ _ _ | show (∃ _, unr _ _ _ _ _ _)))))))|((with_reducible first|apply Cb.mk|apply Lz.mk|apply JoinT.left|(apply AllT.mk;intro x hx));cbv)|((with_reducible refine Ob.mk (fun _ => ?_) ?_);rotate_left 1)|(with_reducible first|refine Mg.mk (Exists.intro ?_ (And.intro ?_ ?_))|rfl|apply Fin.mk|exact True.intro|apply And.intro)))
 all_goals first|(with_reducible first|show (∃ _, unr _ _ _ _ _ _)|show UnrI _ _ _ _ _|show Goes _ _ _ _|show JoinT _ _ _ _ _ _ _)|(((try dsimp only [Shp.D, Shp.Ds, Shp.dflt] at *); simp only [vla, vem, veq, vln] at *; (try dsimp only [Shp.D, Shp.Ds, Shp.dflt, Shp.dflts] at *); first | done | omega | (exact stp_1 h) | (exact stp_2 ‹_› (.inl h) hl.2.1.1) | (exact stp_2 ‹_› (.inr h) hl.2.1.1) | (exact stp_0 ‹_› ‹_› h hl.2.1.1) | ((try rw [IntKind.wrap_u64] at h); (try simp only [List.length_take, List.length_drop, and_true]); omega)))
def parL : Nat → Int → List UInt8 → List RawT × Int × Int
 | 0, k, b => if k = 0 then (if b.length = 0 then ([], 0, 0) else ([], 0, 2)) else ([], 0, 10)
 | n + 1, k, b => if k = 0 then (if b.length = 0 then ([], 0, 0) else ([], 0, 2))
   else if (stpF k b).2.2.2.1 ≠ 0 then ([], 0, (stpF k b).2.2.2.1)
   else if lastF k = true then (if (stpF k b).2.2.1.length = 0 then ([(stpF k b).1], (stpF k b).2.1, 0) else ([], 0, 2))
   else if (parL n (stpF k b).2.1 (stpF k b).2.2.1).2.2 ≠ 0 then ([], 0, (parL n (stpF k b).2.1 (stpF k b).2.2.1).2.2)
   else ((stpF k b).1 :: (parL n (stpF k b).2.1 (stpF k b).2.2.1).1, (parL n (stpF k b).2.1 (stpF k b).2.2.1).2.1, 0)
def parF (first : Int) (b : List UInt8) : List RawT × Int × Int := if first < 0 ∨ 255 < first then ([], 0, 5) else parL 40 first b
def preL (l : List RawT) (r : List RawT × Int × Int) : List RawT × Int × Int := if r.2.2 ≠ 0 then ([], 0, r.2.2) else (l ++ r.1, r.2.1, 0)
theorem pf_5 {k : Int} {b : List UInt8} (h : k < 0 ∨ k > 255) : (([] : List RawT), (0 : Int), (5 : Int)) = parF k b := by
 unfold parF; rw [if_pos (by omega)]
theorem stp_ty {k : Int} {b : List UInt8} {s : StpT} (hs : s = stpF k b) (h : s.2.2.2.1 = 0) : s.1.1 = k := by
 rw [hs] at h ⊢
 unfold stpF at h ⊢
 split
 ·rename_i h1; rw [if_pos h1] at h; exact absurd h (by decide)
 ·rename_i h1
  rw [if_neg h1] at h
  split
  ·rename_i h2; rw [if_pos h2] at h; exact absurd h (by decide)
  ·rfl
theorem stp_nx {k : Int} {b : List UInt8} {s : StpT} (hs : s = stpF k b) : 0 ≤ s.2.1 ∧ s.2.1 ≤ 255 := by
 rw [hs]
 have := UInt8.toNat_lt (b.getD 0 0)
 unfold stpF
 split
 ·simp
 ·split
  ·simp
  ·simp only; omega
theorem pl_in {k : Int} {bs : List UInt8} {r r' : List RawT × Int × Int} (h1 : ¬ k < 0) (h2 : ¬ 255 < k) (p7 : parL 40 k bs = r) (e : r' = r) : r' = parF k bs := by
 unfold parF; rw [if_neg (by omega), p7]; exact e
theorem pre_e {l : List RawT} {r : List RawT × Int × Int} (h : r.2.2 ≠ 0) : preL l r = ([], 0, r.2.2) := by unfold preL; rw [if_pos h]
theorem parL_0 {k : Int} {b : List UInt8} (hk : ¬ k = 0) : parL 0 k b = ([], 0, 10) := by unfold parL; rw [if_neg hk]
theorem parL_k {n : Nat} {b : List UInt8} : parL n 0 b = if b.length = 0 then ([], 0, 0) else ([], 0, 2) := by
 cases n <;> (unfold parL; rw [if_pos rfl])
theorem parL_s {n : Nat} {k : Int} {b : List UInt8} {s : StpT} (hs : s = stpF k b) (hk : ¬ k = 0) : parL (n + 1) k b =
    if s.2.2.2.1 ≠ 0 then ([], 0, s.2.2.2.1)
    else if lastF k = true then (if s.2.2.1.length = 0 then ([s.1], s.2.1, 0) else ([], 0, 2))
    else preL [s.1] (parL n s.2.1 s.2.2.1) := by
 rw [hs]
 conv => lhs; unfold parL
 rw [if_neg hk]
 rfl
theorem pl_10 {l : List RawT} {k z : Int} {b : List UInt8} (hz : z = 40) (hk : ¬ k = 0) : ([], 0, 10) = preL l (parL (40 - z).toNat k b) := by
 rw [hz, show ((40 : Int) - 40).toNat = 0 from rfl, parL_0 hk]; rfl
theorem z_s {z : Int} (h : z ≤ 40) (hz : ¬ z = 40) : (40 - z).toNat = (40 - (z + 1)).toNat + 1 := by omega
theorem pl_e {l : List RawT} {k z : Int} {b : List UInt8} {s : StpT} (hs : s = stpF k b) (hk : ¬ k = 0) (hz' : z ≤ 40) (hz : ¬ z = 40) (he : ¬ s.2.2.2.1 = 0) : ([], 0, s.2.2.2.1) = preL l (parL (40 - z).toNat k b) := by
 rw [z_s hz' hz, parL_s hs hk, if_pos he, pre_e he]
theorem pl_2 {l : List RawT} {k z : Int} {b : List UInt8} {s : StpT} (hs : s = stpF k b) (hk : ¬ k = 0) (hz' : z ≤ 40) (hz : ¬ z = 40) (he : s.2.2.2.1 = 0) (hl : lastF k = true) (hr : (s.2.2.1.length : Int) > 0) : ([], 0, 2) = preL l (parL (40 - z).toNat k b) := by
 rw [z_s hz' hz, parL_s hs hk, if_neg (fun h => h he), if_pos hl, if_neg (by omega)]; rfl
theorem pl_1 {l : List RawT} {k z : Int} {b : List UInt8} {s : StpT} (hs : s = stpF k b) (hk : ¬ k = 0) (hz' : z ≤ 40) (hz : ¬ z = 40) (he : s.2.2.2.1 = 0) (hl : lastF k = true) (hr : ¬ (s.2.2.1.length : Int) > 0) : (l ++ [s.1], s.2.1, 0) = preL l (parL (40 - z).toNat k b) := by
 rw [z_s hz' hz, parL_s hs hk, if_neg (fun h => h he), if_pos hl, if_pos (by omega)]; rfl
theorem pre_pre {l m : List RawT} {r : List RawT × Int × Int} : preL l (preL m r) = preL (l ++ m) r := by
 unfold preL
 by_cases h : r.2.2 = 0
 ·simp [h]
 ·simp [h]
theorem pl_s {l : List RawT} {k z : Int} {b : List UInt8} {s : StpT} (hs : s = stpF k b) (hk : ¬ k = 0) (hz' : z ≤ 40) (hz : ¬ z = 40) (he : s.2.2.2.1 = 0) (hl : lastF k = false) : preL l (parL (40 - z).toNat k b) = preL (l ++ [s.1]) (parL (40 - (z + 1)).toNat s.2.1 s.2.2.1) := by
 rw [z_s hz' hz, parL_s hs hk, if_neg (fun h => h he), if_neg (by simp [hl]), pre_pre]
theorem pl_k2 {l : List RawT} {k : Int} {n : Nat} {b c : List UInt8} (hc : c = b) (hk : k = 0) (hr : (c.length : Int) > 0) : ([], 0, 2) = preL l (parL n k b) := by
 rw [hk, parL_k, if_neg (by rw [← hc]; omega)]; rfl
theorem pl_k1 {l : List RawT} {k : Int} {n : Nat} {b c : List UInt8} (hc : c = b) (hk : k = 0) (hr : ¬ (c.length : Int) > 0) : (l, 0, 0) = preL l (parL n k b) := by
 rw [hk, parL_k, if_pos (by rw [← hc]; omega)]
 unfold preL
 simp
theorem pl_c {k : Int} {b : List UInt8} {s : StpT} {p : Bool} {q : Prop} (hs : s = stpF k b) (he : s.2.2.2.1 = 0) (h1 : lastF s.1.1 = p) (h2 : lastF k = !p) : q := by
 rw [stp_ty hs he] at h1
 rw [h1] at h2
 cases p <;> cases h2
theorem parL_ne : ∀ (n : Nat) (k : Int) (b : List UInt8), (parL n k b).2.2 ≠ 0 → parL n k b = ([], 0, (parL n k b).2.2)
 | 0, k, b, h => by
   unfold parL at h ⊢
   split at h
   ·rename_i hk
    rw [if_pos hk] at *
    split at h
    ·exact absurd rfl h
    ·rename_i hb; rw [if_neg hb]
   ·rename_i hk; rw [if_neg hk]
 | n + 1, k, b, h => by
   unfold parL at h ⊢
   split at h
   ·rename_i hk
    rw [if_pos hk]
    split at h
    ·exact absurd rfl h
    ·rename_i hb; rw [if_neg hb]
   ·rename_i hk
    rw [if_neg hk]
    split at h
    ·rename_i he; rw [if_pos he]
    ·rename_i he
     rw [if_neg he]
     split at h
     ·rename_i hl
      rw [if_pos hl]
      split at h
      ·exact absurd rfl h
      ·rename_i hb; rw [if_neg hb]
     ·rename_i hl
      rw [if_neg hl]
      split at h
      ·rename_i hb; rw [if_pos hb]
      ·exact absurd rfl h
theorem pl_st {k z : Int} {l : List RawT} {b c bs : List UInt8} (h1 : ¬ k < 0) (h2 : ¬ 255 < k) (q4 : 0 = z) {z6 : Int} (q6 : k = z6) (ql : [] = l) (qb : bs = b) (qc : bs = c) :
    0 ≤ z ∧ z ≤ 40 ∧ 0 ≤ z6 ∧ z6 ≤ 255 ∧ c = b ∧ (l.length : Int) = z ∧ parL 40 k bs = preL l (parL (40 - z).toNat z6 b) := by
 subst q4 q6 ql qb qc
 refine ⟨by omega, by omega, by omega, by omega, rfl, rfl, ?_⟩
 show _ = preL [] (parL 40 k bs)
 unfold preL
 split
 ·rename_i h
  exact parL_ne _ _ _ h
 ·rename_i h
  have h : (parL 40 k bs).2.2 = 0 := by omega
  rw [List.nil_append]
  exact Prod.ext rfl (Prod.ext rfl h)
theorem pl_g {L y yq : List RawT} {r0 : List RawT × Int × Int} {z zq k z6 : Int} {b b2 b3 : List UInt8} {s : StpT} (p1 : 0 ≤ z) (p2 : z ≤ 40) (p6 : (y.length : Int) = z) (p7 : r0 = preL y (parL (40 - z).toNat k b))
    (q4 : (z + 1 + 9223372036854775808) % 18446744073709551616 - 9223372036854775808 = zq) (q6 : s.2.1 = z6) (qy : y ++ [s.1] = yq) (q2 : s.2.2.1 = b2) (q3 : s.2.2.1 = b3)
    (hs : s = stpF k b) (hk : ¬ k = 0) (hz : ¬ z = 40) (he : s.2.2.2.1 = 0) (hl : lastF k = false) :
    (0 ≤ zq ∧ zq ≤ 40 ∧ 0 ≤ z6 ∧ z6 ≤ 255 ∧ b3 = b2 ∧ (yq.length : Int) = zq ∧ r0 = preL yq (parL (40 - zq).toNat z6 b2)) ∧ (41 - zq).toNat < (41 - z).toNat := by
 have hn := stp_nx hs
 have hp := pl_s (l := y) hs hk p2 hz he hl
 rw [show (z + 1 + 9223372036854775808) % 18446744073709551616 - 9223372036854775808 = z + 1 by omega] at q4
 subst q4 q6 qy q2 q3
 refine ⟨⟨by omega, by omega, hn.1, hn.2, rfl, ?_, p7.trans hp⟩, by omega⟩
 rw [List.length_append, List.length_singleton]
 omega
abbrev lastS : Spec := fnFn [.int .i64] [.bool] (fun _ => True) fun x => (lastF x.1, ())
def cp1C_t : SpecT := nd0 80 (lf0 59 (lastS)) (lf0 80 (stpSp))
def cp1C : Cx := ⟨tt, qt, bt, st, cp1C_t, 0, 1000000000000000, fun _ => none, false, CxE.no, []⟩
theorem cp1C_si {E : Env} (h : E.ok) : SpecsOk Tryz.prog E (CxE.no) cp1C_t (fun _ => none) := ⟨(nd0_ok (lf0_ok (.inl (clast_sp h))) (lf0_ok (.inl (crd_sp h)))), noI_ok _ _ _⟩
theorem cp1C_x {E : Env} (h : E.ok) : CxEOk Tryz.prog E (CxE.no) := CxE.no_ok _ _
theorem cp1C_from (lo hi : Nat) (E : Env) (h : E.ok) (h1 : E.lo = lo) (h2 : E.hi = hi) : Cx.ok (Cx.from cp1C lo hi) Tryz.prog E := ⟨tt_ok, qt_ok, bt_ok, cp1C_si h, h, h1, h2, mixed_ok, cp1C_x h⟩
def cp0C_t : SpecT := lf0 59 (lastS)
def cp0C : Cx := ⟨tt, qt, bt, st, cp0C_t, 0, 1000000000000000, fun _ => none, false, CxE.no, []⟩
theorem cp0C_si {E : Env} (h : E.ok) : SpecsOk Tryz.prog E (CxE.no) cp0C_t (fun _ => none) := ⟨(lf0_ok (.inl (clast_sp h))), noI_ok _ _ _⟩
theorem cp0C_x {E : Env} (h : E.ok) : CxEOk Tryz.prog E (CxE.no) := CxE.no_ok _ _
theorem cp0C_from (lo hi : Nat) (E : Env) (h : E.ok) (h1 : E.lo = lo) (h2 : E.hi = hi) : Cx.ok (Cx.from cp0C lo hi) Tryz.prog E := ⟨tt_ok, qt_ok, bt_ok, cp0C_si h, h, h1, h2, mixed_ok, cp0C_x h⟩
def cppC_t : SpecT := fun _ => none
def cppC : Cx := ⟨tt, qt, bt, st, cppC_t, 0, 1000000000000000, fun _ => none, false, CxE.no, []⟩
theorem cppC_si {E : Env} (h : E.ok) : SpecsOk Tryz.prog E (CxE.no) cppC_t (fun _ => none) := ⟨(fun t f h => by cases h), noI_ok _ _ _⟩
theorem cppC_x {E : Env} (h : E.ok) : CxEOk Tryz.prog E (CxE.no) := CxE.no_ok _ _
theorem cppC_from (lo hi : Nat) (E : Env) (h : E.ok) (h1 : E.lo = lo) (h2 : E.hi = hi) : Cx.ok (Cx.from cppC lo hi) Tryz.prog E := ⟨tt_ok, qt_ok, bt_ok, cppC_si h, h, h1, h2, mixed_ok, cppC_x h⟩
def cpC_t : SpecT := fun _ => none
def cpC_i : SpecT := lf0 58 (inlSpec cppC Tryz.f58)
def cpC : Cx := ⟨tt, qt, bt, st, cpC_t, 0, 1000000000000000, cpC_i, true, CxE.no, []⟩
theorem cpC_si {E : Env} (h : E.ok) : SpecsOk Tryz.prog E (CxE.no) cpC_t (cpC_i) := ⟨(fun t f h => by cases h), (lf0_ok (inl_ok h cppC_from Tryz.func58 ⟨by rfl, by rfl⟩ (by kernel_rfl)))⟩
theorem cpC_x {E : Env} (h : E.ok) : CxEOk Tryz.prog E (CxE.no) := CxE.no_ok _ _
theorem cpC_cx (E : Env) (h : E.ok) (h1 : E.lo = 0) (h2 : E.hi = 1000000000000000) : Cx.ok cpC Tryz.prog E := ⟨tt_ok, qt_ok, bt_ok, cpC_si h, h, h1, h2, mixed_ok, cpC_x h⟩
theorem cpR_ok : RfOk Tryz.prog ⟨cp1C, cp0C, 79, Tryz.f79⟩ := ⟨cp1C_from, cp0C_from, fun _ h => h, fun _ h => h, Tryz.func79, ⟨by rfl, by rfl⟩, by kernel_rfl⟩
abbrev cpaSp : Spec := fnSpecT [.int .i64, .sl .byte] [none, none] [.sl rawE, .int .i64, .int .i64] [.sh] [1] (fun _ => True) fun x y => (y.1, y.2.1, y.2.2.1) = parF x.1 x.2.1
theorem cpa_fn : hasFn Tryz.prog 28 := ⟨_, Tryz.func28, by rfl, by rfl⟩
theorem cpa_sp {E : Env} (hE : E.ok) : SpecOk Tryz.prog E 28 cpaSp := by
 refine spec_of_vcTR (C := cpC) cpa_fn Tryz.func28 (by kernel_rfl) cpR_ok cpC_cx (fun x hl hx => ?_) hE
 obtain ⟨k, bs, u⟩ := x
 simp only [Shp.lims, Shp.lim] at hl
 cbv
 (repeat' (first|((with_reducible apply And.intro <;> intro h) <;> (first|(with_reducible first|exact (tf h ‹_›).elim|exact (tf ‹_› h).elim)|cbv)) | ((with_reducible show JoinT (fun s K => vc _ (Code.region _ _ true) s K) _ _ _ _ _ _); (with_reducible apply JoinT.mg2); (focus (cbv; (repeat' (first|((with_reducible apply And.intro <;> intro h) <;> (first|(with_reducible first|exact (tf h ‹_›).elim|exact (tf ‹_› h).elim)|cbv))|((with_reducible first|apply Cb.mk|apply Lz.mk|apply JoinT.left|(apply AllT.mk;intro x hx));cbv)|((with_reducible refine Ob.mk (fun _ => ?_) ?_);rotate_left 1)|(with_reducible first|refine Mg.mk (Exists.intro ?_ (And.intro ?_ ?_))|rfl|apply Fin.mk|exact True.intro|apply And.intro))); (all_goals (try (have du : Unit := (); have dv : Unit := (); first | exact Goes.self (Ex2.mk ⟨dv, du, trivial, trivial, rfl⟩) | exact Goes.self (Ex2.mk ⟨x, du, hx, trivial, rfl⟩) | (rename_i xa hxa; exact Goes.self (Ex2.mk ⟨xa, x, hxa, hx, rfl⟩))))); (all_goals (fail_if_success (with_reducible first | show Goes _ _ _ _ | show (∃ _, unr _ _ _ _ _ _)))))))|((with_reducible first|apply Cb.mk|apply Lz.mk|apply JoinT.left|(apply AllT.mk;intro x hx));cbv)|((with_reducible refine Ob.mk (fun _ => ?_) ?_);rotate_left 1)|(with_reducible first|refine Mg.mk (Exists.intro ?_ (And.intro ?_ ?_))|rfl|apply Fin.mk|exact True.intro|apply And.intro)))
 rotate_right 1
 with_reducible refine AllL.mk (fun r0 l D => ?_)
 cbv
 (repeat' (first|((with_reducible apply And.intro <;> intro h) <;> (first|(with_reducible first|exact (tf h ‹_›).elim|exact (tf ‹_› h).elim)|cbv)) | ((with_reducible show JoinT (fun s K => vc _ (Code.region _ _ true) s K) _ _ _ _ _ _); (with_reducible apply JoinT.mg2); (focus (cbv; (repeat' (first|((with_reducible apply And.intro <;> intro h) <;> (first|(with_reducible first|exact (tf h ‹_›).elim|exact (tf ‹_› h).elim)|cbv))|((with_reducible first|apply Cb.mk|apply Lz.mk|apply JoinT.left|(apply AllT.mk;intro x hx));cbv)|((with_reducible refine Ob.mk (fun _ => ?_) ?_);rotate_left 1)|(with_reducible first|refine Mg.mk (Exists.intro ?_ (And.intro ?_ ?_))|rfl|apply Fin.mk|exact True.intro|apply And.intro))); (all_goals (try (have du : Unit := (); have dv : Unit := (); first | exact Goes.self (Ex2.mk ⟨dv, du, trivial, trivial, rfl⟩) | exact Goes.self (Ex2.mk ⟨x, du, hx, trivial, rfl⟩) | (rename_i xa hxa; exact Goes.self (Ex2.mk ⟨xa, x, hxa, hx, rfl⟩))))); (all_goals (fail_if_success (with_reducible first | show Goes _ _ _ _ | show (∃ _, unr _ _ _ _ _ _)))))))|((with_reducible first|apply Cb.mk|apply Lz.mk|apply JoinT.left|(apply AllT.mk;intro x hx));cbv)|((with_reducible refine Ob.mk (fun _ => ?_) ?_);rotate_left 1)|(with_reducible first|refine Mg.mk (Exists.intro ?_ (And.intro ?_ ?_))|rfl|apply Fin.mk|exact True.intro|apply And.intro)))
 all_goals first|(with_reducible first|show (∃ _, unr _ _ _ _ _ _)|show UnrI _ _ _ _ _|show Goes _ _ _ _|show JoinT _ _ _ _ _ _ _)|(((try dsimp only [Shp.D, Shp.Ds, Shp.dflt] at *); simp only [vla, vem, veq, vln] at *; (try dsimp only [Shp.D, Shp.Ds, Shp.dflt, Shp.dflts] at *); first | (exact pf_5 (.inl h)) | (exact pf_5 (.inr h))))
 have h1 := ‹(BE.cmp BinOp.lss _ _).den = false›
 have h2 := ‹(BE.cmp BinOp.gtr _ _).den = false›
 simp only [vem, veq, ne_eq, cmpI, arI, dvI, shI, SV.den] at h1 h2
 with_reducible refine loop_hv [(109056, 920001, 51, rawE), (6533632, 900002, 5, .byte), (68096, 900003, 5, .byte)] (rangeN 5 29) [101960, 102024, 1000, 1640] [920001, 900002, 900003] (fun z b t y => 0 ≤ z 4 ∧ z 4 ≤ 40 ∧ 0 ≤ z 6529536 ∧ z 6529536 ≤ 255 ∧ y 900003 .byte = y 900002 .byte ∧ ((y 920001 rawE).length : Int) = z 4 ∧ parL 40 k bs = preL (y 920001 rawE) (parL (40 - z 4).toNat (z 6529536) (y 900002 .byte))) (fun z b t y => (41 - z 4).toNat) (by cbv) (by cbv) ?_ ?_ (fun z1 b1 t1 u1 y1 R1 hP1 hR1 => ?_)
 ·exact EndOk.au
 ·intro zq bq tq yq hUq
  have q4 := hUq.z 4
  have q6529536 := hUq.z 6529536
  have qy920001 := hUq.y 920001 (rawE)
  have qy900002 := hUq.y 900002 (.byte)
  have qy900003 := hUq.y 900003 (.byte)
  cbv at q4 q6529536 qy920001 qy900002 qy900003
  replace q4 := q4.eq
  replace q6529536 := q6529536.eq
  replace qy920001 := qy920001.eq
  replace qy900002 := qy900002.eq
  replace qy900003 := qy900003.eq
  simp only [atI, atB, atT, atY, convL_self, vem, veq, ne_eq, cmpI, arI, dvI, shI, SV.den] at q4 q6529536 qy920001 qy900002 qy900003
  clear hUq
  try dsimp only [Shp.D, Shp.Ds, Shp.dflt] at *
  try simp only [vla, vem, veq] at *
  exact pl_st h1 h2 q4 q6529536 qy920001 qy900002 qy900003
 obtain ⟨p1, p2, p3, p4, p5, p6, p7⟩ := hP1
 cbv
 (repeat' (first|((with_reducible apply And.intro <;> intro h) <;> (first|(with_reducible first|exact (tf h ‹_›).elim|exact (tf ‹_› h).elim)|cbv)) | ((with_reducible show JoinT (fun s K => vc _ (Code.region _ _ true) s K) _ _ _ _ _ _); (with_reducible apply JoinT.mg2); (focus (cbv; (repeat' (first|((with_reducible apply And.intro <;> intro h) <;> (first|(with_reducible first|exact (tf h ‹_›).elim|exact (tf ‹_› h).elim)|cbv))|((with_reducible first|apply Cb.mk|apply Lz.mk|apply JoinT.left|(apply AllT.mk;intro x hx));cbv)|((with_reducible refine Ob.mk (fun _ => ?_) ?_);rotate_left 1)|(with_reducible first|refine Mg.mk (Exists.intro ?_ (And.intro ?_ ?_))|rfl|apply Fin.mk|exact True.intro|apply And.intro))); (all_goals (try (have du : Unit := (); have dv : Unit := (); first | exact Goes.self (Ex2.mk ⟨dv, du, trivial, trivial, rfl⟩) | exact Goes.self (Ex2.mk ⟨x, du, hx, trivial, rfl⟩) | (rename_i xa hxa; exact Goes.self (Ex2.mk ⟨xa, x, hxa, hx, rfl⟩))))); (all_goals (fail_if_success (with_reducible first | show Goes _ _ _ _ | show (∃ _, unr _ _ _ _ _ _)))))))|((with_reducible first|apply Cb.mk|apply Lz.mk|apply JoinT.left|(apply AllT.mk;intro x hx));cbv)|((with_reducible refine Ob.mk (fun _ => ?_) ?_);rotate_left 1)|(with_reducible first|refine Mg.mk (Exists.intro ?_ (And.intro ?_ ?_))|rfl|apply Fin.mk|exact True.intro|apply And.intro)))
 all_goals first|(with_reducible first|show (∃ _, unr _ _ _ _ _ _)|show UnrI _ _ _ _ _|show Goes _ _ _ _|show JoinT _ _ _ _ _ _ _)|((try ((try dsimp only [Shp.D, Shp.Ds, Shp.dflt] at *); simp only [vla, vem, veq, vln] at *; (try dsimp only [Shp.D, Shp.Ds, Shp.dflt, Shp.dflts] at *); first | done | omega | (exact pl_in h1 h2 p7 (pl_10 ‹_› ‹_›)) | (exact pl_in h1 h2 p7 (pl_e hx.1 ‹_› p2 ‹_› ‹_›)) | (exact pl_c hx.1 ‹_› (p := false) ‹_› ‹_›) | (exact pl_c hx.1 ‹_› (p := true) ‹_› ‹_›) | (exact pl_in h1 h2 p7 (pl_2 hx.1 ‹_› p2 ‹_› ‹_› ‹_› ‹_›)) | (exact pl_in h1 h2 p7 (pl_1 hx.1 ‹_› p2 ‹_› ‹_› ‹_› ‹_›)) | (exact pl_in h1 h2 p7 (pl_k2 p5 ‹_› ‹_›)) | (exact pl_in h1 h2 p7 (pl_k1 p5 ‹_› ‹_›)) | skip)))
 ·exfalso
  clear p5 p6 p7
  (try dsimp only [Shp.D, Shp.Ds, Shp.dflt] at *); simp only [vla, vem, veq, vln] at *; (try dsimp only [Shp.D, Shp.Ds, Shp.dflt, Shp.dflts] at *)
  exact pl_c hx.1 ‹_› (p := true) ‹_› ‹_›
 ·with_reducible refine hR1 _ ?_ (fun zq bq tq yq hUq => ?_)
  ·exact EndOk.au
  have q4 := hUq.z 4
  have q6529536 := hUq.z 6529536
  have qy920001 := hUq.y 920001 (rawE)
  have qy900002 := hUq.y 900002 (.byte)
  have qy900003 := hUq.y 900003 (.byte)
  cbv at q4 q6529536 qy920001 qy900002 qy900003
  replace q4 := q4.eq
  replace q6529536 := q6529536.eq
  replace qy920001 := qy920001.eq
  replace qy900002 := qy900002.eq
  replace qy900003 := qy900003.eq
  simp only [atI, atB, atT, atY, convL_self, vem, veq, ne_eq, cmpI, arI, dvI, shI, SV.den] at q4 q6529536 qy920001 qy900002 qy900003
  clear hUq hR1
  try dsimp only [Shp.D, Shp.Ds, Shp.dflt] at *
  try simp only [vem, veq, ne_eq, cmpI, arI, dvI, shI, SV.den, elemAt, convL_self] at *
  try dsimp only [Shp.D, Shp.Ds, Shp.dflt, Shp.dflts] at *
  clear h1 h2
  exact pl_g (L := []) p1 p2 p6 p7 q4 q6529536 qy920001 qy900002 qy900003 hx.1 ‹_› ‹_› ‹_› ‹_›
end
end Go.Proofs.YtkifmppmfkpfbaaGreat.V.Ch
namespace Go.Proofs.YtkifmppmfkpfbaaGreat.V.Hd
open Go.RowKit
section
set_option maxHeartbeats 8000000
set_option maxRecDepth 100000
def hnC_t : SpecT := fun _ => none
def hnC : Cx := ⟨tt, qt, bt, st, hnC_t, 0, 1000000000000000, fun _ => none, false, CxE.no, []⟩
theorem hnC_si {E : Env} (h : E.ok) : SpecsOk Tryz.prog E (CxE.no) hnC_t (fun _ => none) := ⟨(fun t f h => by cases h), noI_ok _ _ _⟩
theorem hnC_x {E : Env} (h : E.ok) : CxEOk Tryz.prog E (CxE.no) := CxE.no_ok _ _
theorem hnC_cx (E : Env) (h : E.ok) (h1 : E.lo = 0) (h2 : E.hi = 1000000000000000) : Cx.ok hnC Tryz.prog E := ⟨tt_ok, qt_ok, bt_ok, hnC_si h, h, h1, h2, mixed_ok, hnC_x h⟩
abbrev hdE : Shp := .st [.int .u64, .int .u64, .int .i64, .int .i64, .int .i64, .int .u32]
abbrev HdT : Type := Int × Int × Int × Int × Int × Int × Unit
abbrev hd0 : HdT := (0, 0, 0, 0, 0, 0, ())
def ckF (h : HdT) : Int :=
 if h.1 = 0 then 20
 else if h.2.2.2.1 < 34 ∨ h.2.2.2.1 > 37 ∨ h.2.2.1 < 0 ∨ h.2.2.1 > 255 ∨ ¬ bits .andNot .i64 h.2.2.2.2.1 56 = 0 then 5
 else if ¬ h.2.2.2.1 = 34 ∧ h.2.1 = 0 then 20
 else if h.2.2.2.1 = 34 ∧ ¬ h.2.2.2.2.2.1 = 0 then 7
 else 0
abbrev ckFn : Spec := fnFn [hdE] [.int .i64] (fun _ => True) fun x => (ckF x.1, ())
theorem hck_fn : hasFn Tryz.prog 37 := ⟨_, Tryz.func37, by rfl, by rfl⟩
theorem hck_sp0 {E : Env} (hE : E.ok) : SpecOk Tryz.prog E 37 (fnSpec [hdE] [.int .i64] [] (fun _ => True) fun x y => y.1 = ckF x.1) := by
 refine spec_of_vc (C := hnC) hck_fn Tryz.func37 (by kernel_rfl) hnC_cx (fun x hl hx => ?_) hE
 obtain ⟨⟨i, r, n, e, f, m, _⟩, _⟩ := x
 cbv
 (repeat' (first|((with_reducible apply And.intro <;> intro h) <;> (first|(with_reducible first|exact (tf h ‹_›).elim|exact (tf ‹_› h).elim)|cbv))|((with_reducible first|apply Cb.mk|apply Lz.mk|apply JoinT.left|(apply AllT.mk;intro x hx));cbv)|((with_reducible refine Ob.mk (fun _ => ?_) ?_);rotate_left 1)|(with_reducible first|refine Mg.mk (Exists.intro ?_ (And.intro ?_ ?_))|rfl|apply Fin.mk|exact True.intro|apply And.intro)))
 all_goals first|(with_reducible first|show (∃ _, unr _ _ _ _ _ _)|show UnrI _ _ _ _ _|show Goes _ _ _ _|show JoinT _ _ _ _ _ _ _)|(((try dsimp only [Shp.D, Shp.Ds, Shp.dflt] at *); simp only [vla, vem, veq, vln] at *; (try dsimp only [Shp.D, Shp.Ds, Shp.dflt, Shp.dflts] at *); first | done | (unfold ckF; simp_all; done) | (unfold ckF; simp_all; omega)))
theorem hck_sp {E : Env} (hE : E.ok) : SpecOk Tryz.prog E 37 ckFn := fnFn_of (hck_sp0 hE) fun (x : Shp.Ds [hdE]) (y : Shp.Ds [.int .i64]) h => by rw [← h]
def hdOf (b : List UInt8) : HdT := ((numF b 0 8).1, (numF b 8 8).1, (numF b 16 1).1, (numF b 18 1).1, bits .and .i64 (numF b 19 1).1 56, (numF b 20 4).1, ())
def parseF (b : List UInt8) : HdT × Int :=
 if b.length < 28 then (hd0, 1)
 else if ¬ (numF b 17 1).1 / 16 = 2 then (hd0, 3)
 else if ¬ (numF b 24 4).1 = b.length then (hd0, 2)
 else if ¬ ckF (hdOf b) = 0 then (hd0, ckF (hdOf b))
 else (hdOf b, 0)
theorem num_fail {b : List UInt8} {a w : Int} (h : (!(numF b a w).2) = true) (ha : 0 ≤ a) (h1 : 1 ≤ w) (h8 : w ≤ 8) : (b.length : Int) < a + w := by
 unfold numF at h
 split at h
 ·cases h
 ·omega
theorem num_ok {b : List UInt8} {a w : Int} (h : (!(numF b a w).2) = false) : a + w ≤ (b.length : Int) := by
 unfold numF at h
 split at h
 ·omega
 ·cases h
theorem num_1 (b : List UInt8) (a : Int) : 0 ≤ (numF b a 1).1 ∧ (numF b a 1).1 < 256 := ⟨numF_nn b a 1, numF_lt b a 1 1 (by decide)⟩
theorem num_4 (b : List UInt8) (a : Int) : 0 ≤ (numF b a 4).1 ∧ (numF b a 4).1 < 4294967296 := ⟨numF_nn b a 4, numF_lt b a 4 4 (by decide)⟩
abbrev hdW (b : List UInt8) : HdT := ((numF b 0 8).1, (numF b 8 8).1, ((numF b 16 1).1 + 9223372036854775808) % 18446744073709551616 - 9223372036854775808, ((numF b 18 1).1 + 9223372036854775808) % 18446744073709551616 - 9223372036854775808, bits BinOp.and .i64 (((numF b 19 1).1 + 9223372036854775808) % 18446744073709551616 - 9223372036854775808) 56, IntKind.u32.wrap (numF b 20 4).1, ())
theorem w1 (b : List UInt8) (a : Int) : ((numF b a 1).1 + 9223372036854775808) % 18446744073709551616 - 9223372036854775808 = (numF b a 1).1 := by
 have := num_1 b a
 omega
theorem hdW_eq (b : List UInt8) : hdW b = hdOf b := by
 unfold hdW hdOf
 have := num_4 b 20
 rw [w1, w1, w1, show IntKind.u32.wrap (numF b 20 4).1 = (numF b 20 4).1 from by rw [IntKind.wrap_u32]; omega]
theorem parse_short {b : List UInt8} {a w : Int} (h : (!(numF b a w).2) = true) (ha : 0 ≤ a) (h1 : 1 ≤ w) (h8 : w ≤ 8) (hs : a + w ≤ 28) : (hd0, 1) = parseF b := by
 have := num_fail h ha h1 h8
 unfold parseF; rw [if_pos (by omega)]
theorem ver_eq (b : List UInt8) : IntKind.u64.wrap ((numF b 17 1).1.tdiv 16) = (numF b 17 1).1 / 16 := by
 have := num_1 b 17
 rw [IntKind.wrap_u64, Int.tdiv_eq_ediv_of_nonneg this.1]
 omega
theorem parse_ver {b : List UInt8} (h28 : 28 ≤ (b.length : Int)) (h : ¬ IntKind.u64.wrap ((numF b 17 1).1.tdiv 16) = 2) : (hd0, 3) = parseF b := by
 rw [ver_eq] at h
 unfold parseF; rw [if_neg (by omega), if_pos h]
theorem parse_len {b : List UInt8} (h28 : 28 ≤ (b.length : Int)) (hl : b.length ≤ 140737488355328) (hv : IntKind.u64.wrap ((numF b 17 1).1.tdiv 16) = 2) (h : ¬ (numF b 24 4).1 = IntKind.u64.wrap (b.length : Int)) : (hd0, 2) = parseF b := by
 rw [ver_eq] at hv
 rw [IntKind.wrap_u64] at h
 unfold parseF; rw [if_neg (by omega), if_neg (by omega), if_pos (by omega)]
theorem parse_ck {b : List UInt8} (h28 : 28 ≤ (b.length : Int)) (hl : b.length ≤ 140737488355328) (hv : IntKind.u64.wrap ((numF b 17 1).1.tdiv 16) = 2) (h : (numF b 24 4).1 = IntKind.u64.wrap (b.length : Int)) (hc : ¬ ckF (hdW b) = 0) : (hd0, ckF (hdW b)) = parseF b := by
 rw [ver_eq] at hv
 rw [IntKind.wrap_u64] at h
 rw [hdW_eq] at hc ⊢
 unfold parseF; rw [if_neg (by omega), if_neg (by omega), if_neg (by omega), if_pos hc]
theorem parse_good {b : List UInt8} (h28 : 28 ≤ (b.length : Int)) (hl : b.length ≤ 140737488355328) (hv : IntKind.u64.wrap ((numF b 17 1).1.tdiv 16) = 2) (h : (numF b 24 4).1 = IntKind.u64.wrap (b.length : Int)) (hc : ckF (hdW b) = 0) : (hdW b, 0) = parseF b := by
 rw [ver_eq] at hv
 rw [IntKind.wrap_u64] at h
 rw [hdW_eq] at hc ⊢
 unfold parseF; rw [if_neg (by omega), if_neg (by omega), if_neg (by omega), if_neg (by omega)]
def tkC_t : SpecT := lf0 86 (numSp)
def tkC : Cx := ⟨tt, qt, bt, st, tkC_t, 0, 1000000000000000, fun _ => none, false, CxE.no, []⟩
theorem tkC_si {E : Env} (h : E.ok) : SpecsOk Tryz.prog E (CxE.no) tkC_t (fun _ => none) := ⟨(lf0_ok (.inl (wnum_sp h))), noI_ok _ _ _⟩
theorem tkC_x {E : Env} (h : E.ok) : CxEOk Tryz.prog E (CxE.no) := CxE.no_ok _ _
theorem tkC_from (lo hi : Nat) (E : Env) (h : E.ok) (h1 : E.lo = lo) (h2 : E.hi = hi) : Cx.ok (Cx.from tkC lo hi) Tryz.prog E := ⟨tt_ok, qt_ok, bt_ok, tkC_si h, h, h1, h2, mixed_ok, tkC_x h⟩
def hpC_t : SpecT := lf0 37 (ckFn)
def hpC_i : SpecT := lf0 67 (inlSpec tkC Tryz.f67)
def hpC : Cx := ⟨tt, qt, bt, st, hpC_t, 0, 1000000000000000, hpC_i, true, CxE.no, []⟩
theorem hpC_si {E : Env} (h : E.ok) : SpecsOk Tryz.prog E (CxE.no) hpC_t (hpC_i) := ⟨(lf0_ok (.inl (hck_sp h))), (lf0_ok (inl_ok h tkC_from Tryz.func67 ⟨by rfl, by rfl⟩ (by kernel_rfl)))⟩
theorem hpC_x {E : Env} (h : E.ok) : CxEOk Tryz.prog E (CxE.no) := CxE.no_ok _ _
theorem hpC_cx (E : Env) (h : E.ok) (h1 : E.lo = 0) (h2 : E.hi = 1000000000000000) : Cx.ok hpC Tryz.prog E := ⟨tt_ok, qt_ok, bt_ok, hpC_si h, h, h1, h2, mixed_ok, hpC_x h⟩
theorem hpa_fn : hasFn Tryz.prog 39 := ⟨_, Tryz.func39, by rfl, by rfl⟩
theorem hpa_sp {E : Env} (hE : E.ok) : SpecOk Tryz.prog E 39 (fnSpec [.sl .byte] [hdE, .int .i64] [] (fun _ => True) fun x y => (y.1, y.2.1) = parseF x.1) := by
 refine spec_of_vc (C := hpC) hpa_fn Tryz.func39 (by kernel_rfl) hpC_cx (fun x hl hx => ?_) hE
 obtain ⟨b, _⟩ := x
 have hlen : b.length ≤ 140737488355328 := by simp only [Shp.lims, Shp.lim] at hl; exact hl.1.1
 cbv
 (repeat' (first|((with_reducible apply And.intro <;> intro h) <;> (first|(with_reducible first|exact (tf h ‹_›).elim|exact (tf ‹_› h).elim)|cbv))|((with_reducible first|apply Cb.mk|apply Lz.mk|apply JoinT.left|(apply AllT.mk;intro x hx));cbv)|((with_reducible refine Ob.mk (fun _ => ?_) ?_);rotate_left 1)|(with_reducible first|refine Mg.mk (Exists.intro ?_ (And.intro ?_ ?_))|rfl|apply Fin.mk|exact True.intro|apply And.intro)))
 all_goals first|(with_reducible first|show (∃ _, unr _ _ _ _ _ _)|show UnrI _ _ _ _ _|show Goes _ _ _ _|show JoinT _ _ _ _ _ _ _)|(((try dsimp only [Shp.D, Shp.Ds, Shp.dflt] at *); simp only [vla, vem, veq, vln] at *; (try dsimp only [Shp.D, Shp.Ds, Shp.dflt, Shp.dflts] at *); first | done | omega | (exact parse_short h (by decide) (by decide) (by decide) (by decide)) | (have h28 := num_ok (‹(!(numF b 24 4).2) = false›); first | exact parse_ver h28 h | exact parse_len h28 hlen (by assumption) h | exact parse_ck h28 hlen (by assumption) (by assumption) h | exact parse_good h28 hlen (by assumption) (by assumption) h)))
abbrev hpaSp : Spec := fnSpec [.sl .byte] [hdE, .int .i64] [] (fun _ => True) fun x y => (y.1, y.2.1) = parseF x.1
end
end Go.Proofs.YtkifmppmfkpfbaaGreat.V.Hd
namespace Go.Proofs.YtkifmppmfkpfbaaGreat.V
open Go.RowKit
section
abbrev geL : List Int := [0, 1, 2, 3, 4, 5, 6, 7, 8, 9, 10, 11, 13, 15, 16, 17, 18, 19, 20, 21, 25]
structure GE (e : Int) : Prop where
 h : e ∈ geL
theorem ge_c (e : Int) (h : e ∈ geL := by decide) : GE e := ⟨h⟩
def replyF (e : Int) : Int × Bool :=
 if e = 3 then (5, true) else if e = 6 then (1, true) else if e = 20 then (4, true) else if e = 16 then (14, true) else if e = 13 then (17, true)
 else if e = 17 then (38, true) else if e = 18 ∨ e = 19 then (24, true) else if e = 25 then (35, true) else if e = 21 then (43, true)
 else if e = 1 ∨ e = 2 ∨ e = 4 ∨ e = 5 ∨ e = 7 ∨ e = 8 ∨ e = 9 ∨ e = 10 ∨ e = 11 ∨ e = 15 then (7, true) else (0, false)
theorem reply_ok {e : Int} (h : GE e) (h0 : ¬ e = 0) : (replyF e).2 = true := by
 have := h.h
 simp only [geL, List.mem_cons, List.not_mem_nil, or_false] at this
 rcases this with rfl | rfl | rfl | rfl | rfl | rfl | rfl | rfl | rfl | rfl | rfl | rfl | rfl | rfl | rfl | rfl | rfl | rfl | rfl | rfl | rfl <;> first | exact absurd rfl h0 | decide
theorem trsE_ge : ∀ (l pre : List TrT), GE (trsE pre l)
 | [], pre => by rw [trsE]; exact ge_c 0
 | t :: l, pre => by
   rw [trsE]
   split
   ·exact ge_c 5
   ·split
    ·exact ge_c 9
    ·exact trsE_ge l _
theorem oneF_ge (p : PrT) (n : Int) : GE (oneF p n) := by
 unfold oneF
 split
 ·exact ge_c 7
 split
 ·exact ge_c 5
 split
 ·exact ge_c 20
 split
 ·exact ge_c 8
 split
 ·exact ge_c 10
 exact trsE_ge _ _
theorem chkGo_ge : ∀ (l : List PrT) (n : Int), GE (chkGo l n)
 | [], n => by rw [chkGo]; exact ge_c 0
 | p :: l, n => by
   rw [chkGo]
   split
   ·exact chkGo_ge l _
   ·exact oneF_ge _ _
theorem chkF_ge (l : List PrT) : GE (chkF l) := by
 unfold chkF
 split
 ·exact ge_c 8
 split
 ·exact ge_c 10
 exact chkGo_ge _ _
theorem parP_ge (b : List UInt8) : GE (parP b).2 := by
 unfold parP
 split
 ·exact ge_c 1
 split
 ·exact ge_c 4
 split
 ·exact ge_c 0
 ·exact chkF_ge _
theorem chkSel_ge (s : Sel) : GE (chkSel s) := by
 unfold chkSel
 split
 ·exact ge_c 15
 split
 ·exact ge_c 5
 exact ge_c 0
theorem chkAll_ge : ∀ l : List SelT, GE (chkAll l)
 | [] => by rw [chkAll]; exact ge_c 0
 | s :: l => by
   rw [chkAll]
   split
   ·exact chkAll_ge l
   ·exact chkSel_ge _
theorem parseF_ge (b : List UInt8) : GE (parseF b).2 := by
 unfold parseF
 split
 ·exact ge_c 1
 split
 ·exact ge_c 8
 split
 ·exact ge_c 10
 unfold endF
 split
 ·exact ge_c 4
 split
 ·exact ge_c 4
 split
 ·exact ge_c 0
 ·exact chkAll_ge _
theorem hparse_ge (b : List UInt8) : GE (Hd.parseF b).2 := by
 unfold Hd.parseF
 split
 ·exact ge_c 1
 split
 ·exact ge_c 3
 split
 ·exact ge_c 2
 split
 ·unfold Hd.ckF
  (repeat' split) <;> first | exact ge_c 0 | exact ge_c 5 | exact ge_c 20 | exact ge_c 7
 ·exact ge_c 0
theorem stpF_ge (k : Int) (b : List UInt8) : GE (Ch.stpF k b).2.2.2.1 := by
 unfold Ch.stpF
 split
 ·exact ge_c 1
 split
 ·exact ge_c 2
 ·exact ge_c 0
theorem parL_ge : ∀ (n : Nat) (k : Int) (b : List UInt8), GE (Ch.parL n k b).2.2 ∧ (Ch.parL n k b).1.length ≤ n + 1
 | 0, k, b => by
   rw [Ch.parL]
   (repeat' split) <;> first | exact ⟨ge_c 0, by simp⟩ | exact ⟨ge_c 2, by simp⟩ | exact ⟨ge_c 10, by simp⟩
 | n + 1, k, b => by
   have ih := parL_ge n (Ch.stpF k b).2.1 (Ch.stpF k b).2.2.1
   rw [Ch.parL]
   split
   ·split
    ·exact ⟨ge_c 0, by simp⟩
    ·exact ⟨ge_c 2, by simp⟩
   split
   ·exact ⟨stpF_ge k b, by simp⟩
   split
   ·split
    ·exact ⟨ge_c 0, by simp⟩
    ·exact ⟨ge_c 2, by simp⟩
   split
   ·exact ⟨ih.1, by simp⟩
   ·exact ⟨ge_c 0, by have := ih.2; simp only [List.length_cons]; omega⟩
theorem parF_ge (k : Int) (b : List UInt8) : GE (Ch.parF k b).2.2 ∧ (Ch.parF k b).1.length ≤ 41 := by
 unfold Ch.parF
 split
 ·exact ⟨ge_c 5, by simp⟩
 ·exact parL_ge 40 k b
end
section
set_option maxHeartbeats 8000000
set_option maxRecDepth 100000
theorem chkI_ge (q : Bool) (x : Int) (t w : Nat → Int) (n : Nat) : GE (chkI q x t w n) := by
 unfold chkI
 (repeat' split) <;> first | exact ge_c 9 | exact ge_c 7 | exact ge_c 0 | exact ge_c 8
abbrev rplSp : Spec := fnSpec [.int .i64] [.int .i64, .bool] [] (fun _ => True) fun (x : Shp.Ds [.int .i64]) (y : Shp.Ds [.int .i64, .bool]) => (y.1, y.2.1) = replyF x.1
theorem rep_fn : hasFn Tryz.prog 15 := ⟨_, Tryz.func15, by rfl, by rfl⟩
theorem rep_sp {E : Env} (hE : E.ok) : SpecOk Tryz.prog E 15 rplSp := by
 refine spec_of_vc (C := noC) rep_fn Tryz.func15 (by kernel_rfl) noC_cx (fun x hl hx => ?_) hE
 obtain ⟨k, ⟨⟩⟩ := x
 cbv
 (repeat' (first|((with_reducible apply And.intro <;> intro h) <;> (first|(with_reducible first|exact (tf h ‹_›).elim|exact (tf ‹_› h).elim)|cbv))|((with_reducible first|apply Cb.mk|apply Lz.mk|apply JoinT.left|(apply AllT.mk;intro x hx));cbv)|((with_reducible refine Ob.mk (fun _ => ?_) ?_);rotate_left 1)|(with_reducible first|refine Mg.mk (Exists.intro ?_ (And.intro ?_ ?_))|rfl|apply Fin.mk|exact True.intro|apply And.intro)))
 all_goals first|(with_reducible first|show (∃ _, unr _ _ _ _ _ _)|show UnrI _ _ _ _ _|show Goes _ _ _ _|show JoinT _ _ _ _ _ _ _)|((try ((try dsimp only [Shp.D, Shp.Ds, Shp.dflt] at *); simp only [vla, vem, veq, vln] at *; (try dsimp only [Shp.D, Shp.Ds, Shp.dflt, Shp.dflts] at *); first | done | omega | (unfold replyF; simp_all; done) | skip)))
theorem rrep_fn : hasFn Tryz.prog 16 := ⟨_, Tryz.func16, by rfl, by rfl⟩
theorem rrep_sp {E : Env} (hE : E.ok) : SpecOk Tryz.prog E 16 rplSp := by
 refine spec_of_vc (C := noC) rrep_fn Tryz.func16 (by kernel_rfl) noC_cx (fun x hl hx => ?_) hE
 obtain ⟨k, ⟨⟩⟩ := x
 cbv
 (repeat' (first|((with_reducible apply And.intro <;> intro h) <;> (first|(with_reducible first|exact (tf h ‹_›).elim|exact (tf ‹_› h).elim)|cbv))|((with_reducible first|apply Cb.mk|apply Lz.mk|apply JoinT.left|(apply AllT.mk;intro x hx));cbv)|((with_reducible refine Ob.mk (fun _ => ?_) ?_);rotate_left 1)|(with_reducible first|refine Mg.mk (Exists.intro ?_ (And.intro ?_ ?_))|rfl|apply Fin.mk|exact True.intro|apply And.intro)))
 all_goals first|(with_reducible first|show (∃ _, unr _ _ _ _ _ _)|show UnrI _ _ _ _ _|show Goes _ _ _ _|show JoinT _ _ _ _ _ _ _)|((try ((try dsimp only [Shp.D, Shp.Ds, Shp.dflt] at *); simp only [vla, vem, veq, vln] at *; (try dsimp only [Shp.D, Shp.Ds, Shp.dflt, Shp.dflts] at *); first | done | omega | (unfold replyF; simp_all; done) | skip)))
abbrev modSp : Spec := fnSpec [.int .i64, .int .i64] [.int .i64] [] (fun (x : Shp.Ds [.int .i64, .int .i64]) => x.2.1 = 30) fun (x : Shp.Ds [.int .i64, .int .i64]) (y : Shp.Ds [.int .i64]) => True
theorem mod_fn : hasFn Tryz.prog 14 := ⟨_, Tryz.func14, by rfl, by rfl⟩
theorem mod_sp {E : Env} (hE : E.ok) : SpecOk Tryz.prog E 14 modSp := by
 refine spec_of_vc (C := noC) mod_fn Tryz.func14 (by kernel_rfl) noC_cx (fun x hl hx => ?_) hE
 obtain ⟨a, k, ⟨⟩⟩ := x
 have hk : k = 30 := hx
 subst hk
 cbv
 (repeat' (first|((with_reducible apply And.intro <;> intro h) <;> (first|(with_reducible first|exact (tf h ‹_›).elim|exact (tf ‹_› h).elim)|cbv))|((with_reducible first|apply Cb.mk|apply Lz.mk|apply JoinT.left|(apply AllT.mk;intro x hx));cbv)|((with_reducible refine Ob.mk (fun _ => ?_) ?_);rotate_left 1)|(with_reducible first|refine Mg.mk (Exists.intro ?_ (And.intro ?_ ?_))|rfl|apply Fin.mk|exact True.intro|apply And.intro)))
 all_goals first|(with_reducible first|show (∃ _, unr _ _ _ _ _ _)|show UnrI _ _ _ _ _|show Goes _ _ _ _|show JoinT _ _ _ _ _ _ _)|((try ((try dsimp only [Shp.D, Shp.Ds, Shp.dflt] at *); simp only [vla, vem, veq, vln] at *; (try dsimp only [Shp.D, Shp.Ds, Shp.dflt, Shp.dflts] at *); first | done | omega | skip)))
theorem aw_go {e a c : Int} {b : Bool} {P Q : Prop} (h1 : e = c ∧ P) (hc : c = 8) (hx : (a, b) = replyF e ∧ Q) : a = 7 ∧ b = true := by
 rw [h1.1, hc] at hx
 have := hx.1
 rw [show replyF 8 = (7, true) by decide, Prod.mk.injEq] at this
 exact this
def aw7C_t : SpecT := nd0 20 (lf0 15 (rplSp)) (lf0 20 (ckmSp))
def aw7C : Cx := ⟨tt, qt, bt, st, aw7C_t, 0, 1000000000000000, fun _ => none, false, CxE.no, []⟩
theorem aw7C_si {E : Env} (h : E.ok) : SpecsOk Tryz.prog E (CxE.no) aw7C_t (fun _ => none) := ⟨(nd0_ok (lf0_ok (.inl (rep_sp h))) (lf0_ok (.inl (ckm_sp h)))), noI_ok _ _ _⟩
theorem aw7C_x {E : Env} (h : E.ok) : CxEOk Tryz.prog E (CxE.no) := CxE.no_ok _ _
theorem aw7C_cx (E : Env) (h : E.ok) (h1 : E.lo = 0) (h2 : E.hi = 1000000000000000) : Cx.ok aw7C Tryz.prog E := ⟨tt_ok, qt_ok, bt_ok, aw7C_si h, h, h1, h2, mixed_ok, aw7C_x h⟩
abbrev aw7Sp : Spec := fnSpec [] [.bool] [] (fun _ => True) fun _ y => y.1 = true
theorem aw7_fn : hasFn Tryz.prog 6 := ⟨_, Tryz.func6, by rfl, by rfl⟩
theorem aw7_sp {E : Env} (hE : E.ok) : SpecOk Tryz.prog E 6 aw7Sp := by
 refine spec_of_vc (C := aw7C) aw7_fn Tryz.func6 (by kernel_rfl) aw7C_cx (fun x hl hx => ?_) hE
 obtain ⟨⟩ := x
 cbv
 (repeat' (first|((with_reducible apply And.intro <;> intro h) <;> (first|(with_reducible first|exact (tf h ‹_›).elim|exact (tf ‹_› h).elim)|cbv))|((with_reducible first|apply Cb.mk|apply Lz.mk|apply JoinT.left|(apply AllT.mk;intro x hx));cbv)|((with_reducible refine Ob.mk (fun _ => ?_) ?_);rotate_left 1)|(with_reducible first|refine Mg.mk (Exists.intro ?_ (And.intro ?_ ?_))|rfl|apply Fin.mk|exact True.intro|apply And.intro)))
 all_goals first|(with_reducible first|show (∃ _, unr _ _ _ _ _ _)|show UnrI _ _ _ _ _|show Goes _ _ _ _|show JoinT _ _ _ _ _ _ _)|((try ((try dsimp only [Shp.D, Shp.Ds, Shp.dflt] at *); simp only [vla, vem, veq, vln] at *; (try dsimp only [Shp.D, Shp.Ds, Shp.dflt, Shp.dflts] at *); first | done | omega | (exact ⟨by omega⟩) | (exact hx.1.trans (by decide +kernel)) | (exfalso; have k := aw_go (by assumption) (by decide +kernel) hx; simp_all; done) | skip)))
end
end Go.Proofs.YtkifmppmfkpfbaaGreat.V
namespace Go.Proofs.YtkifmppmfkpfbaaGreat
open Go.RowKit
section
set_option maxHeartbeats 400000 in
theorem bytes_Equal (a : Option Addr) (len cap : Nat) (l : List UInt8) (a' : Option Addr) (len' cap' : Nat) (l' : List UInt8) (w : World) (h : Bs w a len cap l) (h' : Bs w a' len' cap' l') :
    Calls Tryz.prog 147 #[.slice a len cap, .slice a' len' cap'] w fun e w' => e = .returned (.bool (l == l')) ∧ w = w' := by
 have c1 := run_convert_Bs (P := Tryz.prog) h 22 5 9 Tryz.underlying22 Tryz.underlying5 Tryz.underlying9
 have c2 := run_convert_Bs (P := Tryz.prog) h' 22 5 9 Tryz.underlying22 Tryz.underlying5 Tryz.underlying9
 go_enter Tryz.func147, Tryz.ntmps147
 go_wp2
 go_ret
 exact ⟨rfl, rfl⟩
set_option maxHeartbeats 400000 in
theorem wire_Equal (a : Option Addr) (len cap : Nat) (l : List UInt8) (a' : Option Addr) (len' cap' : Nat) (l' : List UInt8) (w : World) (h : Bs w a len cap l) (h' : Bs w a' len' cap' l') :
    Calls Tryz.prog 136 #[.slice a len cap, .slice a' len' cap'] w fun e w' => e = .returned (.bool (l == l')) ∧ w = w' := by
 go_enter Tryz.func136, Tryz.ntmps136
 go_wp2_with (go_at_call 147; refine (bytes_Equal _ _ _ _ _ _ _ _ _ h h').mono ?_; rintro e w' ⟨rfl, rfl⟩)
 go_ret
 exact ⟨rfl, rfl⟩
namespace V
theorem spec_rawB {P : Program} {f : FuncId} (hn : hasFn P f) {az : List Shp} {F : Shp.Ds az → Bool} (hs0 : ∀ x : Shp.Ds az, ∃ svs ents, svArgs az (fun _ => x) 0 = some (svs, ents) ∧ freshL 0 1000000 [] [] ents = true ∧ ∀ (E : Env) (ρ : Nm) (w : World), Hp E ρ [] ents w → Calls P f (SV.dens ρ svs).toArray w fun e w' => e = .returned (.bool (F x)) ∧ w = w')
    {E : Env} : SpecOk P E f (fnFn az [.bool] (fun _ => True) fun x => (F x, ())) := by
 refine ⟨hn, ?_⟩
 intro lo hi id args s K hlo hhi hs ρ w hh hargs
 unfold fnFn at hs
 split at hs
 ·rename_i d hd
  obtain ⟨hob, hs⟩ := obsK_spec hs
  have hs := hs.k
  have hK : K (.bool (.t fun _ => F (d.x ()))) ⟨s.fr, s.n, s.heap, catE [] s.ents, s.next⟩ := hs.2
  obtain ⟨svs, ents, h1, h2, h3⟩ := hs0 (d.x ())
  obtain ⟨⟨ρc, c1, c2⟩, _⟩ := svArgs_sound hh (fun _ k => k < w.heap.size) 0 1000000 (fun _ _ h => h) az args d 0 svs ents hd hob h1 h2
  have h4 := h3 _ ρc w c1
  rw [c2 ρc (Agr.refl _ _ _)] at h4
  refine h4.mono ?_
  rintro e w' ⟨rfl, rfl⟩
  refine ⟨_, _, ρ, by simp only [SV.den, bden_t], hK, by rw [catE_eq]; exact hh, fun ρ'' hr => ⟨by rw [catE_eq] at hr; exact hr, by simp only [SV.den, bden_t]⟩, ?_⟩
  rw [catE_eq]
  exact Ext.refl hh (fun _ _ _ _ => rfl) (Agr.refl _ _ _) (fun id f h => ⟨h, rfl⟩) _
 ·exact hs.elim
abbrev weqFn : Spec := fnFn [.sl .byte, .sl .byte] [.bool] (fun _ => True) fun x => (x.1 == x.2.1, ())
theorem weq_fn : hasFn Tryz.prog 136 := ⟨_, Tryz.func136, by rfl, by rfl⟩
theorem weq_sp {E : Env} (hE : E.ok) : SpecOk Tryz.prog E 136 weqFn := by
 refine spec_rawB weq_fn (az := [.sl .byte, .sl .byte]) (F := fun x => x.1 == x.2.1) fun x => ⟨_, _, rfl, by rfl, fun E ρ w hh => ?_⟩
 have f0 := FE.reads (hh.facts _ List.mem_cons_self) rfl
 have f1 := FE.reads (hh.facts _ (List.mem_cons_of_mem _ List.mem_cons_self)) rfl
 simp only [Shp.rep] at f0 f1
 exact wire_Equal _ _ _ _ _ _ _ _ w (bs_of_rd f0) (bs_of_rd f1)
end V
end
end Go.Proofs.YtkifmppmfkpfbaaGreat
