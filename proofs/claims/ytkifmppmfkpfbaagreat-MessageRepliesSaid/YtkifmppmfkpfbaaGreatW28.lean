import Derived.Test.YtkifmppmfkpfbaaGreatW27
import Derived.Test.YtkifmppmfkpfbaaGreatW24
import Derived.Test.YtkifmppmfkpfbaaGreatW18
set_option linter.unusedVariables false
set_option linter.unusedSimpArgs false
namespace Go.Proofs.YtkifmppmfkpfbaaGreat.V
open Go.RowKit
section
set_option maxHeartbeats 8000000
set_option maxRecDepth 100000
theorem shape_fn : hasFn Tryz.prog 127 := ⟨_, Tryz.func127, by rfl, by rfl⟩
theorem shape_sp {E : Env} (hE : E.ok) : SpecOk Tryz.prog E 127 (fnSpec [.int .i64] [.int .i64, .int .i64, .int .i64] [] (fun _ => True) fun x y => (y.1, y.2.1, y.2.2.1) = if x.1 = 4 then (7, 16, 4) else (8, 40, 16)) := by
 refine spec_of_vc (C := noC) shape_fn Tryz.func127 (by kernel_rfl) noC_cx (fun x hl hx => ?_) hE
 obtain ⟨f, u⟩ := x
 cbv
 (repeat' (first|((with_reducible apply And.intro <;> intro h) <;> (first|(with_reducible first|exact (tf h ‹_›).elim|exact (tf ‹_› h).elim)|cbv))|((with_reducible first|apply Cb.mk|apply Lz.mk|apply JoinT.left|(apply AllT.mk;intro x hx));cbv)|((with_reducible refine Ob.mk (fun _ => ?_) ?_);rotate_left 1)|(with_reducible first|refine Mg.mk (Exists.intro ?_ (And.intro ?_ ?_))|rfl|apply Fin.mk|exact True.intro|apply And.intro)))
 all_goals ((try dsimp only [Shp.D, Shp.Ds, Shp.dflt] at *); simp only [vla, vem, veq, vln] at *; (try dsimp only [Shp.D, Shp.Ds, Shp.dflt, Shp.dflts] at *); simp [*])
def adrB (a : Adr) : List UInt8 := if a.fam = 4 then putB a.lo 4 else putB a.hi 8 ++ putB a.lo 8
abbrev paPre : Shp.Ds [.sl .byte, adrE] → Prop := fun x => x.1.length ≤ 999999000
abbrev paPost : Shp.Ds [.sl .byte, adrE] → Shp.Ds [.sl .byte] → Prop := fun x y => y.1 = x.1 ++ adrB (toAdr x.2.1) ∧ y.1.length ≤ x.1.length + 16
def paC_t : SpecT := lf0 66 (fnSpecT putAs [some 5, none, none] [.sl .byte] [.own 5] [] putPre putPost)
def paC : Cx := ⟨tt, qt, bt, st, paC_t, 0, 1000000000000000, fun _ => none, false, CxE.no, []⟩
theorem paC_si {E : Env} (h : E.ok) : SpecsOk Tryz.prog E (CxE.no) paC_t (fun _ => none) := ⟨(lf0_ok (.inl (wput_sp h))), noI_ok _ _ _⟩
theorem paC_x {E : Env} (h : E.ok) : CxEOk Tryz.prog E (CxE.no) := CxE.no_ok _ _
theorem paC_cx (E : Env) (h : E.ok) (h1 : E.lo = 0) (h2 : E.hi = 1000000000000000) : Cx.ok paC Tryz.prog E := ⟨tt_ok, qt_ok, bt_ok, paC_si h, h, h1, h2, mixed_ok, paC_x h⟩
theorem pa_fn : hasFn Tryz.prog 128 := ⟨_, Tryz.func128, by rfl, by rfl⟩
theorem pa_sp {E : Env} (hE : E.ok) : SpecOk Tryz.prog E 128 (fnSpecT [.sl .byte, adrE] [some 5, none] [.sl .byte] [.own 5] [] paPre paPost) := by
 refine spec_of_vcT (C := paC) pa_fn Tryz.func128 (by kernel_rfl) paC_cx (fun x hl hx => ?_) hE
 obtain ⟨b, ⟨f, h, l, u⟩, u'⟩ := x
 have h1 := hx
 dsimp only [Shp.D, Shp.Ds] at h1
 cbv
 (repeat' (first|((with_reducible apply And.intro <;> intro h) <;> (first|(with_reducible first|exact (tf h ‹_›).elim|exact (tf ‹_› h).elim)|cbv))|((with_reducible first|apply Cb.mk|apply Lz.mk|apply JoinT.left|(apply AllT.mk;intro x hx));cbv)|((with_reducible refine Ob.mk (fun _ => ?_) ?_);rotate_left 1)|(with_reducible first|refine Mg.mk (Exists.intro ?_ (And.intro ?_ ?_))|rfl|apply Fin.mk|exact True.intro|apply And.intro)))
 all_goals (try dsimp only [Shp.D, Shp.Ds, Shp.dflt] at *); simp only [vla, vem, veq, vln] at *; (try dsimp only [Shp.D, Shp.Ds, Shp.dflt, Shp.dflts] at *)
 all_goals first
  | omega
  | (have e := hx.1.1; simp [putF] at e; rw [e, adrB]; simp_all [toAdr, putF]; done)
  | (have e := hx.1.2; omega)
end
section
set_option maxHeartbeats 8000000
set_option maxRecDepth 100000
def addrF (b : List UInt8) : AdrT := if b.length = 4 then (4, 0, (numF b 0 4).1, ()) else (6, (numF b 0 8).1, (numF b 8 8).1, ())
def adC_t : SpecT := lf0 86 (numSp)
def adC : Cx := ⟨tt, qt, bt, st, adC_t, 0, 1000000000000000, fun _ => none, false, CxE.no, []⟩
theorem adC_si {E : Env} (h : E.ok) : SpecsOk Tryz.prog E (CxE.no) adC_t (fun _ => none) := ⟨(lf0_ok (.inl (wnum_sp h))), noI_ok _ _ _⟩
theorem adC_x {E : Env} (h : E.ok) : CxEOk Tryz.prog E (CxE.no) := CxE.no_ok _ _
theorem adC_cx (E : Env) (h : E.ok) (h1 : E.lo = 0) (h2 : E.hi = 1000000000000000) : Cx.ok adC Tryz.prog E := ⟨tt_ok, qt_ok, bt_ok, adC_si h, h, h1, h2, mixed_ok, adC_x h⟩
theorem sadr_fn : hasFn Tryz.prog 145 := ⟨_, Tryz.func145, by rfl, by rfl⟩
abbrev addrSp : Spec := fnFn [.sl .byte] [adrE] (fun _ => True) fun x => (addrF x.1, ())
theorem sadr_sp0 {E : Env} (hE : E.ok) : SpecOk Tryz.prog E 145 (fnSpec [.sl .byte] [adrE] [] (fun _ => True) fun x y => y.1 = addrF x.1) := by
 refine spec_of_vc (C := adC) sadr_fn Tryz.func145 (by kernel_rfl) adC_cx (fun x hl hx => ?_) hE
 obtain ⟨b, u⟩ := x
 cbv
 (repeat' (first|((with_reducible apply And.intro <;> intro h) <;> (first|(with_reducible first|exact (tf h ‹_›).elim|exact (tf ‹_› h).elim)|cbv))|((with_reducible first|apply Cb.mk|apply Lz.mk|apply JoinT.left|(apply AllT.mk;intro x hx));cbv)|((with_reducible refine Ob.mk (fun _ => ?_) ?_);rotate_left 1)|(with_reducible first|refine Mg.mk (Exists.intro ?_ (And.intro ?_ ?_))|rfl|apply Fin.mk|exact True.intro|apply And.intro)))
 all_goals first|(with_reducible first|show (∃ _, unr _ _ _ _ _ _)|show UnrI _ _ _ _ _|show Goes _ _ _ _|show JoinT _ _ _ _ _ _ _)|(((try dsimp only [Shp.D, Shp.Ds, Shp.dflt] at *); simp only [vla, vem, veq, vln] at *; (try dsimp only [Shp.D, Shp.Ds, Shp.dflt, Shp.dflts] at *); first | omega | (rw [addrF, if_pos (by omega)]; done) | (rw [addrF, if_neg (by omega)]; done)))
theorem sadr_sp {E : Env} (hE : E.ok) : SpecOk Tryz.prog E 145 addrSp := fnFn_of (sadr_sp0 hE) fun x y h => by
 obtain ⟨a, u⟩ := y
 exact congrArg (·, ()) h
def selF1 (b : List UInt8) : Option (SelT × List UInt8) :=
 if b.length < 8 then none else
 if (b.getD 0 0).toNat = 7 then
  (if (numF b 2 2).1 = 16 ∧ 16 ≤ b.length then some (((b.getD 1 0).toNat, (numF b 4 2).1, (numF b 6 2).1, addrF ((b.drop 8).take 4), addrF ((b.drop 12).take 4), ()), b.drop 16) else none) else
 if (b.getD 0 0).toNat = 8 then
  (if (numF b 2 2).1 = 40 ∧ 40 ≤ b.length then some (((b.getD 1 0).toNat, (numF b 4 2).1, (numF b 6 2).1, addrF ((b.drop 8).take 16), addrF ((b.drop 24).take 16), ()), b.drop 40) else none)
 else none
theorem oneF_16 (b : List UInt8) (h1 : (b.getD 0 0).toNat = 7) (h2 : (numF b 2 2).1 = 16) (h3 : 16 ≤ b.length) : selF1 b = some ((((b.getD 1 0).toNat : Int), (numF b 4 2).1, (numF b 6 2).1, addrF ((b.drop 8).take 4), addrF ((b.drop 12).take 4), ()), b.drop 16) := by
 rw [selF1, if_neg (by omega), if_pos h1, if_pos ⟨h2, h3⟩]
theorem oneF_40 (b : List UInt8) (h1 : (b.getD 0 0).toNat = 8) (h2 : (numF b 2 2).1 = 40) (h3 : 40 ≤ b.length) : selF1 b = some ((((b.getD 1 0).toNat : Int), (numF b 4 2).1, (numF b 6 2).1, addrF ((b.drop 8).take 16), addrF ((b.drop 24).take 16), ()), b.drop 40) := by
 rw [selF1, if_neg (by omega), if_neg (by omega), if_pos h1, if_pos ⟨h2, h3⟩]
theorem oneF_none (b : List UInt8) (h : b.length < 8 ∨ ((b.getD 0 0).toNat ≠ 7 ∧ (b.getD 0 0).toNat ≠ 8) ∨ ((b.getD 0 0).toNat = 7 ∧ ((numF b 2 2).1 ≠ 16 ∨ b.length < 16)) ∨ ((b.getD 0 0).toNat = 8 ∧ ((numF b 2 2).1 ≠ 40 ∨ b.length < 40))) : selF1 b = none := by
 unfold selF1
 split
 ·rfl
 ·split
  ·rw [if_neg (by omega)]
  ·split
   ·rw [if_neg (by omega)]
   ·rfl
theorem rest_take (b : List UInt8) (n : Nat) : List.take ((b.length : Int).toNat - n) (List.drop n b) = List.drop n b := by
 rw [List.take_of_length_le]
 rw [List.length_drop]
 omega
theorem wrap_byte (x : UInt8) : ((x.toNat : Int) + 9223372036854775808) % 18446744073709551616 - 9223372036854775808 = x.toNat := by
 have := x.toNat_lt
 omega
theorem wrap_num (l : List UInt8) (a w : Int) (hw : w ≤ 4) : ((numF l a w).1 + 9223372036854775808) % 18446744073709551616 - 9223372036854775808 = (numF l a w).1 := by
 have h1 := numF_nn l a w
 have h2 := numF_lt l a w 4 hw
 omega
abbrev shpFn : Spec := fnFn [.int .i64] [.int .i64, .int .i64, .int .i64] (fun _ => True) fun x => if x.1 = 4 then (7, 16, 4, ()) else (8, 40, 16, ())
theorem shapeF_sp {E : Env} (hE : E.ok) : SpecOk Tryz.prog E 127 shpFn := fnFn_of (shape_sp hE) fun x y h => by
 obtain ⟨a, b, c, u⟩ := y
 dsimp only at h ⊢
 split at h <;> rename_i h1
 ·rw [if_pos h1]; injection h with h1 h2; injection h2 with h2 h3; subst h1 h2 h3; rfl
 ·rw [if_neg h1]; injection h with h1 h2; injection h2 with h2 h3; subst h1 h2 h3; rfl
def onC_t : SpecT := nd0 127 (lf0 86 (numSp)) (nd0 145 (lf0 127 (shpFn)) (lf0 145 (addrSp)))
def onC : Cx := ⟨tt, qt, bt, st, onC_t, 0, 1000000000000000, fun _ => none, false, CxE.no, []⟩
theorem onC_si {E : Env} (h : E.ok) : SpecsOk Tryz.prog E (CxE.no) onC_t (fun _ => none) := ⟨(nd0_ok (lf0_ok (.inl (wnum_sp h))) (nd0_ok (lf0_ok (.inl (shapeF_sp h))) (lf0_ok (.inl (sadr_sp h))))), noI_ok _ _ _⟩
theorem onC_x {E : Env} (h : E.ok) : CxEOk Tryz.prog E (CxE.no) := CxE.no_ok _ _
theorem onC_cx (E : Env) (h : E.ok) (h1 : E.lo = 0) (h2 : E.hi = 1000000000000000) : Cx.ok onC Tryz.prog E := ⟨tt_ok, qt_ok, bt_ok, onC_si h, h, h1, h2, mixed_ok, onC_x h⟩
theorem one_fn : hasFn Tryz.prog 133 := ⟨_, Tryz.func133, by rfl, by rfl⟩
abbrev oneSp : Spec := fnSpecT [.sl .byte] [none] [selE, .sl .byte, .bool] [.sh] [0] (fun _ => True) fun x y => match selF1 x.1 with
 | some (s, r) => y = (s, r, true, ())
 | none => y.2.2.1 = false
theorem one_sp {E : Env} (hE : E.ok) : SpecOk Tryz.prog E 133 oneSp := by
 refine spec_of_vcT (C := onC) one_fn Tryz.func133 (by kernel_rfl) onC_cx (fun x hl hx => ?_) hE
 obtain ⟨b, u⟩ := x
 have hlen : b.length ≤ 140737488355328 := by simp only [Shp.lims, Shp.lim] at hl; exact hl.1.1
 cbv
 (repeat' (first|((with_reducible apply And.intro <;> intro h) <;> (first|(with_reducible first|exact (tf h ‹_›).elim|exact (tf ‹_› h).elim)|cbv))|((with_reducible first|apply Cb.mk|apply Lz.mk|apply JoinT.left|(apply AllT.mk;intro x hx));cbv)|((with_reducible refine Ob.mk (fun _ => ?_) ?_);rotate_left 1)|(with_reducible first|refine Mg.mk (Exists.intro ?_ (And.intro ?_ ?_))|rfl|apply Fin.mk|exact True.intro|apply And.intro)))
 all_goals first|(with_reducible first|show (∃ _, unr _ _ _ _ _ _)|show UnrI _ _ _ _ _|show Goes _ _ _ _|show JoinT _ _ _ _ _ _ _)|(((try dsimp only [Shp.D, Shp.Ds, Shp.dflt] at *); simp only [vla, vem, veq, vln] at *; (try dsimp only [Shp.D, Shp.Ds, Shp.dflt, Shp.dflts] at *); first | omega | ((try simp only [↓reduceIte, and_true, true_and, Int.reduceEq, Int.reduceAdd, Int.reduceMul, Int.reduceMod, Int.reduceSub, Int.reduceToNat, Nat.reduceSub, Nat.reduceAdd, Nat.reduceMul, IntKind.wrap_u64] at *); first | omega | (rw [oneF_none _ (by omega)]; trivial) | (rw [oneF_16 _ (by omega) (by omega) (by omega)]; simp only [wrap_byte, wrap_num _ _ _ (show (2 : Int) ≤ 4 by decide), rest_take]; (try rfl); done) | (rw [oneF_40 _ (by omega) (by omega) (by omega)]; simp only [wrap_byte, wrap_num _ _ _ (show (2 : Int) ≤ 4 by decide), rest_take]; (try rfl); done))))
end
section
set_option maxHeartbeats 8000000
set_option maxRecDepth 100000
def loopF : Nat → List SelT → List UInt8 → Option (List SelT × List UInt8)
 | 0, l, b => some (l, b)
 | n + 1, l, b => match selF1 b with
   | none => none
   | some (s, r) => loopF n (l ++ [s]) r
def endF : Option (List SelT × List UInt8) → List SelT × Int
 | none => ([], 4)
 | some (l, r) => if 0 < r.length then ([], 4) else if chkAll l = 0 then (l, 0) else ([], chkAll l)
def parseF (b : List UInt8) : List SelT × Int :=
 if b.length < 4 then ([], 1) else if (b.getD 0 0).toNat = 0 then ([], 8) else if 16 < (b.getD 0 0).toNat then ([], 10) else endF (loopF (b.getD 0 0).toNat [] (b.drop 4))
abbrev scaSp : Spec := fnSpec [.sl selE] [.int .i64] [] (fun _ => True) fun x y => y.1 = chkAll x.1
def paC2_t : SpecT := nd0 133 (lf0 126 (scaSp)) (lf0 133 (oneSp))
def paC2 : Cx := ⟨tt, qt, bt, st, paC2_t, 0, 1000000000000000, fun _ => none, false, CxE.no, []⟩
theorem paC2_si {E : Env} (h : E.ok) : SpecsOk Tryz.prog E (CxE.no) paC2_t (fun _ => none) := ⟨(nd0_ok (lf0_ok (.inl (sca_sp h))) (lf0_ok (.inl (one_sp h)))), noI_ok _ _ _⟩
theorem paC2_x {E : Env} (h : E.ok) : CxEOk Tryz.prog E (CxE.no) := CxE.no_ok _ _
theorem paC2_cx (E : Env) (h : E.ok) (h1 : E.lo = 0) (h2 : E.hi = 1000000000000000) : Cx.ok paC2 Tryz.prog E := ⟨tt_ok, qt_ok, bt_ok, paC2_si h, h, h1, h2, mixed_ok, paC2_x h⟩
abbrev parseSp : Spec := fnSpec [.sl .byte] [.sl selE, .int .i64] [139] (fun _ => True) fun x y => (y.1, y.2.1) = parseF x.1
theorem sparse_fn : hasFn Tryz.prog 118 := ⟨_, Tryz.func118, by rfl, by rfl⟩
theorem loopF_none (n : Nat) (l : List SelT) (b : List UInt8) (hn : 0 < n) (h : selF1 b = none) : loopF n l b = none := by
 obtain ⟨k, rfl⟩ : ∃ k, n = k + 1 := ⟨n - 1, by omega⟩
 rw [loopF, h]
theorem loopF_some (n : Nat) (l : List SelT) (b : List UInt8) (hn : 0 < n) (s : SelT) (r : List UInt8) (h : selF1 b = some (s, r)) : loopF n l b = loopF (n - 1) (l ++ [s]) r := by
 obtain ⟨k, rfl⟩ : ∃ k, n = k + 1 := ⟨n - 1, by omega⟩
 rw [loopF, h]
 rfl
theorem one_bad {b : List UInt8} {x : SelT × List UInt8 × Bool × Unit} (hx : match selF1 b with | some (s, r) => x = (s, r, true, ()) | none => x.2.2.1 = false) (h : x.2.2.1 = false) : selF1 b = none := by
 cases ho : selF1 b with
 | none => rfl
 | some p =>
   rw [ho] at hx
   simp only at hx
   rw [hx] at h
   cases h
theorem one_good {b : List UInt8} {x : SelT × List UInt8 × Bool × Unit} (hx : match selF1 b with | some (s, r) => x = (s, r, true, ()) | none => x.2.2.1 = false) (h : x.2.2.1 = true) : selF1 b = some (x.1, x.2.1) := by
 cases ho : selF1 b with
 | none =>
   rw [ho] at hx
   simp only at hx
   rw [hx] at h
   cases h
 | some p =>
   rw [ho] at hx
   simp only at hx
   rw [hx]
theorem parse_bad {m : List UInt8} {n k : Int} {l : List SelT} {b : List UInt8} {x : SelT × List UInt8 × Bool × Unit} (hP : parseF m = endF (loopF n.toNat [] (m.drop 4))) (h : loopF (n - k).toNat l b = loopF n.toNat [] (m.drop 4)) (hk : k < n) (hx : match selF1 b with | some (s, r) => x = (s, r, true, ()) | none => x.2.2.1 = false) (hb : (!x.2.2.1) = true) : ([], 4) = parseF m := by
 rw [hP, ← h, loopF_none _ _ _ (by omega) (one_bad hx (by simpa using hb))]
 rfl
theorem parse_end {m : List UInt8} {n k : Int} {l : List SelT} {b : List UInt8} (hP : parseF m = endF (loopF n.toNat [] (m.drop 4))) (h : loopF (n - k).toNat l b = loopF n.toNat [] (m.drop 4)) (hk : n ≤ k) : parseF m = if 0 < b.length then ([], 4) else if chkAll l = 0 then (l, 0) else ([], chkAll l) := by
 rw [hP, ← h, show (n - k).toNat = 0 by omega]
 rfl
theorem parse_next {n k : Int} {l : List SelT} {b : List UInt8} {x : SelT × List UInt8 × Bool × Unit} {R : Option (List SelT × List UInt8)} (h : loopF (n - k).toNat l b = R) (hk : k < n) (hx : match selF1 b with | some (s, r) => x = (s, r, true, ()) | none => x.2.2.1 = false) (hb : (!x.2.2.1) = false) {j : Int} (hj : j = k + 1) : loopF (n - j).toNat (l ++ [x.1]) x.2.1 = R := by
 rw [← h, loopF_some _ _ _ (by omega) _ _ (one_good hx (by simpa using hb)), show (n - k).toNat - 1 = (n - j).toNat by omega]
theorem sparse_sp {E : Env} (hE : E.ok) : SpecOk Tryz.prog E 118 parseSp := by
 refine spec_of_vc (C := paC2) sparse_fn Tryz.func118 (by kernel_rfl) paC2_cx (fun x hl hx => ?_) hE
 obtain ⟨m, u⟩ := x
 have hlen : m.length ≤ 140737488355328 := by simp only [Shp.lims, Shp.lim] at hl; exact hl.1.1
 cbv
 (repeat' (first|((with_reducible apply And.intro <;> intro h) <;> (first|(with_reducible first|exact (tf h ‹_›).elim|exact (tf ‹_› h).elim)|cbv))|((with_reducible first|apply Cb.mk|apply Lz.mk|apply JoinT.left|(apply AllT.mk;intro x hx));cbv)|((with_reducible refine Ob.mk (fun _ => ?_) ?_);rotate_left 1)|(with_reducible first|refine Mg.mk (Exists.intro ?_ (And.intro ?_ ?_))|rfl|apply Fin.mk|exact True.intro|apply And.intro)))
 all_goals first|(with_reducible first|show (∃ _, unr _ _ _ _ _ _)|show UnrI _ _ _ _ _|show Goes _ _ _ _|show JoinT _ _ _ _ _ _ _)|(((try dsimp only [Shp.D, Shp.Ds, Shp.dflt] at *); simp only [vla, vem, veq, vln] at *; (try dsimp only [Shp.D, Shp.Ds, Shp.dflt, Shp.dflts] at *); (try simp only [↓reduceIte, and_true, true_and, Int.reduceEq, Int.reduceAdd, Int.reduceMul, Int.reduceMod, Int.reduceSub, Int.reduceToNat, Nat.reduceSub, Nat.reduceAdd, Nat.reduceMul, IntKind.wrap_u64, wrap_byte] at *); first | omega | (rw [parseF, if_pos (by omega)]; done) | (rw [parseF, if_neg (by omega), if_pos (by omega)]; done) | (rw [parseF, if_neg (by omega), if_neg (by omega), if_pos (by omega)]; done)))
 have c1 := ‹(BE.cmp BinOp.lss _ _).den = false›
 have c2 := ‹(BE.cmp BinOp.eql _ _).den = false›
 have c3 := ‹(BE.cmp BinOp.gtr _ _).den = false›
 dsimp only [Shp.D, Shp.Ds, Shp.dflt] at c1 c2 c3
 simp only [vem, veq, ne_eq, cmpI, arI, dvI, shI, SV.den, elemAt] at c1 c2 c3
 simp only [↓reduceIte, and_true, true_and, Int.reduceEq, Int.reduceAdd, Int.reduceMul, Int.reduceMod, Int.reduceSub, Int.reduceToNat, Nat.reduceSub, Nat.reduceAdd, Nat.reduceMul, IntKind.wrap_u64, wrap_byte] at c1 c2 c3
 dsimp only [Shp.D, Shp.Ds, Shp.dflt] at c1 c2 c3
 have hP : parseF m = endF (loopF (((m.getD 0 0).toNat : Int)).toNat [] (m.drop 4)) := by rw [parseF, if_neg (by omega), if_neg (by omega), if_neg (by omega)]; rfl
 with_reducible refine loop_hv [(5, 900, 139, selE)] (6 :: 7 :: 8 :: 21 :: 22 :: rangeN 25 15) [] [900, 2024] (fun z b t y => 0 ≤ z 24 ∧ z 24 ≤ ((m.getD 0 0).toNat : Int) ∧ ((y 900 selE).length : Int) = z 24 ∧ loopF (((m.getD 0 0).toNat : Int) - z 24).toNat (y 900 selE) (y 2024 .byte) = loopF (((m.getD 0 0).toNat : Int)).toNat [] (m.drop 4)) (fun z b t y => (((m.getD 0 0).toNat : Int) - z 24).toNat) (by cbv) (by cbv) ?_ ?_ (fun z1 b1 t1 u1 y1 R1 hP1 hR1 => ?_)
 ·exact EndOk.au
 ·intro zq bq tq yq hUq
  have q24 := hUq.z 24
  have qy900 := hUq.y 900 (selE)
  have qy2024 := hUq.y 2024 (.byte)
  cbv at q24 qy900 qy2024
  replace q24 := q24.eq
  replace qy900 := qy900.eq
  replace qy2024 := qy2024.eq
  simp only [atI, atB, atT, atY, convL_self, vem, veq, ne_eq, cmpI, arI, dvI, shI, SV.den] at q24 qy900 qy2024
  clear hUq
  try dsimp only [Shp.D, Shp.Ds, Shp.dflt] at *
  try simp only [vla, vem, veq] at *
  rw [← qy900, ← q24]
  refine ⟨by omega, by omega, rfl, ?_⟩
  rw [← qy2024, Int.sub_zero]
  simp only [partL, lowD, highD, ↓reduceIte, and_true, true_and, Int.reduceEq, Int.reduceAdd, Int.reduceMul, Int.reduceMod, Int.reduceSub, Int.reduceToNat, Nat.reduceSub, Nat.reduceAdd, Nat.reduceMul, IntKind.wrap_u64, vem, veq, ne_eq, cmpI, arI, dvI, shI, SV.den]
  rw [show (m.length : Int).toNat - 4 = (m.drop 4).length by rw [List.length_drop]; omega, List.take_length]
 obtain ⟨p1, p2, p3, p4⟩ := hP1
 cbv
 (repeat' (first|((with_reducible apply And.intro <;> intro h) <;> (first|(with_reducible first|exact (tf h ‹_›).elim|exact (tf ‹_› h).elim)|cbv))|((with_reducible first|apply Cb.mk|apply Lz.mk|apply JoinT.left|(apply AllT.mk;intro x hx));cbv)|((with_reducible refine Ob.mk (fun _ => ?_) ?_);rotate_left 1)|(with_reducible first|refine Mg.mk (Exists.intro ?_ (And.intro ?_ ?_))|rfl|apply Fin.mk|exact True.intro|apply And.intro)))
 all_goals first | (with_reducible show Goes _ _ _ _; skip) | (clear hR1)
 all_goals first|(with_reducible first|show (∃ _, unr _ _ _ _ _ _)|show UnrI _ _ _ _ _|show Goes _ _ _ _|show JoinT _ _ _ _ _ _ _)|(((try dsimp only [Shp.D, Shp.Ds, Shp.dflt] at *); simp only [vla, vem, veq, vln] at *; (try dsimp only [Shp.D, Shp.Ds, Shp.dflt, Shp.dflts] at *); (try simp only [↓reduceIte, and_true, true_and, Int.reduceEq, Int.reduceAdd, Int.reduceMul, Int.reduceMod, Int.reduceSub, Int.reduceToNat, Nat.reduceSub, Nat.reduceAdd, Nat.reduceMul, IntKind.wrap_u64, wrap_byte] at *); first | omega | exact parse_bad hP p4 (by omega) hx.1 (by assumption) | (rw [parse_end hP p4 (by omega)]; first | (rw [if_pos (by omega)]; done) | (rw [if_neg (by omega), if_pos (by omega)]; done) | (rw [if_neg (by omega), if_neg (by omega), hx.1]; done))))
 ·with_reducible refine hR1 _ ?_ (fun zq bq tq yq hUq => ?_)
  ·exact EndOk.au
  have q24 := hUq.z 24
  have qy900 := hUq.y 900 (selE)
  have qy2024 := hUq.y 2024 (.byte)
  cbv at q24 qy900 qy2024
  replace q24 := q24.eq
  replace qy900 := qy900.eq
  replace qy2024 := qy2024.eq
  simp only [atI, atB, atT, atY, convL_self, vem, veq, ne_eq, cmpI, arI, dvI, shI, SV.den] at q24 qy900 qy2024
  clear hUq hR1
  try dsimp only [Shp.D, Shp.Ds, Shp.dflt] at *
  try simp only [vem, veq, ne_eq, cmpI, arI, dvI, shI, SV.den, elemAt, convL_self] at *
  try dsimp only [Shp.D, Shp.Ds, Shp.dflt, Shp.dflts] at *
  simp only [↓reduceIte, and_true, true_and, Int.reduceEq, Int.reduceAdd, Int.reduceMul, Int.reduceMod, Int.reduceSub, Int.reduceToNat, Nat.reduceSub, Nat.reduceAdd, Nat.reduceMul, IntKind.wrap_u64, wrap_byte] at *
  rw [← qy900, ← qy2024]
  have e : zq 24 = z1 24 + 1 := by omega
  refine ⟨⟨by omega, by omega, by simp only [List.length_append, List.length_cons, List.length_nil]; omega, ?_⟩, by omega⟩
  exact parse_next p4 (by omega) hx.1 (by assumption) e
end
section
open Go.RowKit
end
end Go.Proofs.YtkifmppmfkpfbaaGreat.V
namespace Go.Proofs.YtkifmppmfkpfbaaGreat.V.Ch
open Go.RowKit
section
set_option maxHeartbeats 8000000
set_option maxRecDepth 100000
abbrev rawE : Shp := .st [.int .i64, .bool, .sl .byte]
abbrev RawT : Type := Int × Bool × List UInt8 × Unit
abbrev raw0 : RawT := (0, false, [], ())
def lastF (k : Int) : Bool := decide (k = 46) || decide (k = 53)
def chkL : List RawT → Int
 | [] => 0
 | r :: l => if r.1 < 1 ∨ 255 < r.1 then 5 else if 65531 < (r.2.2.1.length : Int) then 11 else if lastF r.1 = true ∧ l ≠ [] then 7 else chkL l
theorem chkL_drop (l : List RawT) (k : Nat) (h : k < l.length) : chkL (l.drop k) = if (l.getD k raw0).1 < 1 ∨ 255 < (l.getD k raw0).1 then 5 else if 65531 < ((l.getD k raw0).2.2.1.length : Int) then 11 else if lastF (l.getD k raw0).1 = true ∧ k + 1 < l.length then 7 else chkL (l.drop (k + 1)) := by
 rw [List.drop_eq_getElem_cons h, chkL, List.getD_eq_getElem?_getD, List.getElem?_eq_getElem h]
 have e : l.drop (k + 1) ≠ [] ↔ k + 1 < l.length := by
  constructor
  ·intro h1
   rcases Nat.lt_or_ge (k + 1) l.length with h2 | h2
   ·exact h2
   ·exact absurd (List.drop_eq_nil_of_le h2) h1
  ·intro h1 h2
   have := congrArg List.length h2
   rw [List.length_drop, List.length_nil] at this
   omega
 simp only [e]
 rfl
theorem chkL_nil (l : List RawT) (k : Nat) (h : l.length ≤ k) : chkL (l.drop k) = 0 := by
 rw [List.drop_eq_nil_of_le h, chkL]
def checkF (l : List RawT) (ins : Int) : Int :=
 if 40 < l.length then 10 else if chkL l ≠ 0 then chkL l else if ins < 0 ∨ 255 < ins then 5 else if ins ≠ 0 ∧ (l.length = 0 ∨ lastF (l.getD (l.length - 1) raw0).1 = false) then 7 else 0
abbrev lastFn : Spec := fnFn [.int .i64] [.bool] (fun _ => True) fun x => (lastF x.1, ())
def cnC_t : SpecT := fun _ => none
def cnC : Cx := ⟨tt, qt, bt, st, cnC_t, 0, 1000000000000000, fun _ => none, false, CxE.no, []⟩
theorem cnC_si {E : Env} (h : E.ok) : SpecsOk Tryz.prog E (CxE.no) cnC_t (fun _ => none) := ⟨(fun t f h => by cases h), noI_ok _ _ _⟩
theorem cnC_x {E : Env} (h : E.ok) : CxEOk Tryz.prog E (CxE.no) := CxE.no_ok _ _
theorem cnC_cx (E : Env) (h : E.ok) (h1 : E.lo = 0) (h2 : E.hi = 1000000000000000) : Cx.ok cnC Tryz.prog E := ⟨tt_ok, qt_ok, bt_ok, cnC_si h, h, h1, h2, mixed_ok, cnC_x h⟩
theorem clast_fn : hasFn Tryz.prog 59 := ⟨_, Tryz.func59, by rfl, by rfl⟩
theorem clast_sp0 {E : Env} (hE : E.ok) : SpecOk Tryz.prog E 59 (fnSpec [.int .i64] [.bool] [] (fun _ => True) fun x y => y.1 = lastF x.1) := by
 refine spec_of_vc (C := cnC) clast_fn Tryz.func59 (by kernel_rfl) cnC_cx (fun x hl hx => ?_) hE
 obtain ⟨k, _⟩ := x
 cbv
 (repeat' (first|((with_reducible apply And.intro <;> intro h) <;> (first|(with_reducible first|exact (tf h ‹_›).elim|exact (tf ‹_› h).elim)|cbv))|((with_reducible first|apply Cb.mk|apply Lz.mk|apply JoinT.left|(apply AllT.mk;intro x hx));cbv)|((with_reducible refine Ob.mk (fun _ => ?_) ?_);rotate_left 1)|(with_reducible first|refine Mg.mk (Exists.intro ?_ (And.intro ?_ ?_))|rfl|apply Fin.mk|exact True.intro|apply And.intro)))
 all_goals first|(with_reducible first|show (∃ _, unr _ _ _ _ _ _)|show UnrI _ _ _ _ _|show Goes _ _ _ _|show JoinT _ _ _ _ _ _ _)|(((try dsimp only [Shp.D, Shp.Ds, Shp.dflt] at *); simp only [vla, vem, veq, vln] at *; (try dsimp only [Shp.D, Shp.Ds, Shp.dflt, Shp.dflts] at *); first | done | (unfold lastF; simp_all; done) | (unfold lastF; simp [h]; done) | (unfold lastF; simp only [h, decide_false, Bool.false_or]; rfl)))
theorem clast_sp {E : Env} (hE : E.ok) : SpecOk Tryz.prog E 59 lastFn := fnFn_of (clast_sp0 hE) fun (x : Shp.Ds [.int .i64]) (y : Shp.Ds [.bool]) h => by rw [← h]
theorem ck_c {l : List RawT} {ins c : Int} (h : (l.length : Int) ≤ 40) (hc : chkL l = c) (h0 : c ≠ 0) : c = checkF l ins := by
 unfold checkF
 rw [if_neg (by omega), if_pos (by rw [hc]; exact h0), hc]
theorem ck_5 {l : List RawT} {ins k : Int} (h : (l.length : Int) ≤ 40) (p : chkL (l.drop k.toNat) = chkL l) (k0 : 0 ≤ k) (k1 : k < l.length) (hb : (l.getD k.toNat raw0).1 < 1 ∨ 255 < (l.getD k.toNat raw0).1) : 5 = checkF l ins :=
 ck_c h (by rw [← p, chkL_drop l _ (by omega), if_pos hb]) (by decide)
theorem ck_11 {l : List RawT} {ins k : Int} (h : (l.length : Int) ≤ 40) (p : chkL (l.drop k.toNat) = chkL l) (k0 : 0 ≤ k) (k1 : k < l.length) (ha : ¬ (l.getD k.toNat raw0).1 < 1) (hb : ¬ 255 < (l.getD k.toNat raw0).1) (hc : 65531 < ((l.getD k.toNat raw0).2.2.1.length : Int)) : 11 = checkF l ins :=
 ck_c h (by rw [← p, chkL_drop l _ (by omega), if_neg (by omega), if_pos hc]) (by decide)
theorem ck_7 {l : List RawT} {ins k : Int} (h : (l.length : Int) ≤ 40) (p : chkL (l.drop k.toNat) = chkL l) (k0 : 0 ≤ k) (k1 : k < l.length) (ha : ¬ (l.getD k.toNat raw0).1 < 1) (hb : ¬ 255 < (l.getD k.toNat raw0).1) (hc : ¬ 65531 < ((l.getD k.toNat raw0).2.2.1.length : Int)) (hd : lastF (l.getD k.toNat raw0).1 = true) (he : k + 1 < l.length) : 7 = checkF l ins :=
 ck_c h (by rw [← p, chkL_drop l _ (by omega), if_neg (by omega), if_neg hc, if_pos ⟨hd, by omega⟩]) (by decide)
theorem ck_go {l : List RawT} {k : Int} (p : chkL (l.drop k.toNat) = chkL l) (k0 : 0 ≤ k) (k1 : k < l.length) (ha : ¬ (l.getD k.toNat raw0).1 < 1) (hb : ¬ 255 < (l.getD k.toNat raw0).1) (hc : ¬ 65531 < ((l.getD k.toNat raw0).2.2.1.length : Int)) (hd : lastF (l.getD k.toNat raw0).1 = false ∨ ¬ k + 1 < l.length) {j : Int} (hj : j = k + 1) : chkL (l.drop j.toNat) = chkL l := by
 have e := chkL_drop l k.toNat (by omega)
 rw [p, if_neg (by omega), if_neg hc, if_neg (by rcases hd with hd | hd; rw [hd]; simp; omega)] at e
 rw [e, hj, show (k + 1).toNat = k.toNat + 1 by omega]
theorem ck_0 {l : List RawT} {k : Int} (p : chkL (l.drop k.toNat) = chkL l) (k1 : ¬ k < l.length) : chkL l = 0 := by
 rw [← p, chkL_nil l _ (by omega)]
theorem ck_e {l : List RawT} {ins k : Int} (h : (l.length : Int) ≤ 40) (p : chkL (l.drop k.toNat) = chkL l) (k1 : ¬ k < l.length) : checkF l ins = if ins < 0 ∨ 255 < ins then 5 else if ins ≠ 0 ∧ (l.length = 0 ∨ lastF (l.getD (l.length - 1) raw0).1 = false) then 7 else 0 := by
 unfold checkF
 rw [if_neg (by omega), if_neg (by rw [ck_0 p k1]; simp)]
theorem ck_e7 {l : List RawT} {ins k : Int} (h : (l.length : Int) ≤ 40) (p : chkL (l.drop k.toNat) = chkL l) (k1 : ¬ k < l.length) (i0 : ¬ ins < 0) (i1 : ¬ 255 < ins) (i2 : ¬ ins = 0) (hl : ¬ (l.length : Int) = 0) (hh : (!lastF (l.getD (((l.length : Int) - 1 + 9223372036854775808) % 18446744073709551616 - 9223372036854775808).toNat raw0).1) = true) : 7 = checkF l ins := by
 rw [show (((l.length : Int) - 1 + 9223372036854775808) % 18446744073709551616 - 9223372036854775808).toNat = l.length - 1 by omega] at hh
 rw [ck_e h p k1, if_neg (by omega), if_pos ⟨i2, .inr (by simpa using hh)⟩]
theorem ck_e0 {l : List RawT} {ins k : Int} (h : (l.length : Int) ≤ 40) (p : chkL (l.drop k.toNat) = chkL l) (k1 : ¬ k < l.length) (i0 : ¬ ins < 0) (i1 : ¬ 255 < ins) (hl : ¬ (l.length : Int) = 0) (hh : (!lastF (l.getD (((l.length : Int) - 1 + 9223372036854775808) % 18446744073709551616 - 9223372036854775808).toNat raw0).1) = false) : 0 = checkF l ins := by
 rw [show (((l.length : Int) - 1 + 9223372036854775808) % 18446744073709551616 - 9223372036854775808).toNat = l.length - 1 by omega] at hh
 rw [ck_e h p k1, if_neg (by omega), if_neg]
 rintro ⟨_, h1 | h1⟩
 ·omega
 ·rw [h1] at hh; cases hh
theorem ck_e00 {l : List RawT} {ins k : Int} (h : (l.length : Int) ≤ 40) (p : chkL (l.drop k.toNat) = chkL l) (k1 : ¬ k < l.length) (i2 : ins = 0) : 0 = checkF l ins := by
 rw [ck_e h p k1, if_neg (by omega), if_neg]
 rintro ⟨h1, _⟩
 exact h1 i2
abbrev chkAs : List Shp := [.sl rawE, .int .i64]
abbrev chkFn : Spec := fnSpec chkAs [.int .i64] [] (fun _ => True) fun x y => y.1 = checkF x.1 x.2.1
def ckC_t : SpecT := lf0 59 (lastFn)
def ckC : Cx := ⟨tt, qt, bt, st, ckC_t, 0, 1000000000000000, fun _ => none, false, CxE.no, []⟩
theorem ckC_si {E : Env} (h : E.ok) : SpecsOk Tryz.prog E (CxE.no) ckC_t (fun _ => none) := ⟨(lf0_ok (.inl (clast_sp h))), noI_ok _ _ _⟩
theorem ckC_x {E : Env} (h : E.ok) : CxEOk Tryz.prog E (CxE.no) := CxE.no_ok _ _
theorem ckC_cx (E : Env) (h : E.ok) (h1 : E.lo = 0) (h2 : E.hi = 1000000000000000) : Cx.ok ckC Tryz.prog E := ⟨tt_ok, qt_ok, bt_ok, ckC_si h, h, h1, h2, mixed_ok, ckC_x h⟩
theorem cchk_fn : hasFn Tryz.prog 65 := ⟨_, Tryz.func65, by rfl, by rfl⟩
theorem cchk_sp {E : Env} (hE : E.ok) : SpecOk Tryz.prog E 65 chkFn := by
 refine spec_of_vc (C := ckC) cchk_fn Tryz.func65 (by kernel_rfl) ckC_cx (fun x hl hx => ?_) hE
 obtain ⟨l, ins, u⟩ := x
 have hlen : l.length ≤ 140737488355328 := by simp only [Shp.lims, Shp.lim] at hl; exact hl.1.1
 cbv
 (repeat' (first|((with_reducible apply And.intro <;> intro h) <;> (first|(with_reducible first|exact (tf h ‹_›).elim|exact (tf ‹_› h).elim)|cbv))|((with_reducible first|apply Cb.mk|apply Lz.mk|apply JoinT.left|(apply AllT.mk;intro x hx));cbv)|((with_reducible refine Ob.mk (fun _ => ?_) ?_);rotate_left 1)|(with_reducible first|refine Mg.mk (Exists.intro ?_ (And.intro ?_ ?_))|rfl|apply Fin.mk|exact True.intro|apply And.intro)))
 all_goals first|(with_reducible first|show (∃ _, unr _ _ _ _ _ _)|show UnrI _ _ _ _ _|show Goes _ _ _ _|show JoinT _ _ _ _ _ _ _)|(((try dsimp only [Shp.D, Shp.Ds, Shp.dflt] at *); simp only [vla, vem, veq, vln] at *; (try dsimp only [Shp.D, Shp.Ds, Shp.dflt, Shp.dflts] at *); first | done | (unfold checkF; rw [if_pos (by omega)])))
 with_reducible refine loop_hv [] (5 :: 6 :: rangeN 13 56) [] [] (fun z b t y => 0 ≤ z 12 ∧ z 12 ≤ (l.length : Int) ∧ chkL (l.drop (z 12).toNat) = chkL l) (fun z b t y => ((l.length : Int) - z 12).toNat) (by cbv) (by cbv) ?_ ?_ (fun z1 b1 t1 u1 y1 R1 hP1 hR1 => ?_)
 ·exact EndOk.au
 ·intro zq bq tq yq hUq
  have q12 := hUq.z 12
  cbv at q12
  replace q12 := q12.eq
  simp only [atI, atB, atT, atY, convL_self, vem, veq, ne_eq, cmpI, arI, dvI, shI, SV.den] at q12
  clear hUq
  try dsimp only [Shp.D, Shp.Ds, Shp.dflt] at *
  try simp only [vla, vem, veq] at *
  rw [← q12]
  exact ⟨by omega, by omega, rfl⟩
 obtain ⟨p1, p2, p3⟩ := hP1
 cbv
 (repeat' (first|((with_reducible apply And.intro <;> intro h) <;> (first|(with_reducible first|exact (tf h ‹_›).elim|exact (tf ‹_› h).elim)|cbv))|((with_reducible first|apply Cb.mk|apply Lz.mk|apply JoinT.left|(apply AllT.mk;intro x hx));cbv)|((with_reducible refine Ob.mk (fun _ => ?_) ?_);rotate_left 1)|(with_reducible first|refine Mg.mk (Exists.intro ?_ (And.intro ?_ ?_))|rfl|apply Fin.mk|exact True.intro|apply And.intro)))
 all_goals first|(with_reducible first|show (∃ _, unr _ _ _ _ _ _)|show UnrI _ _ _ _ _|show Goes _ _ _ _|show JoinT _ _ _ _ _ _ _)|((try ((try dsimp only [Shp.D, Shp.Ds, Shp.dflt] at *); simp only [vla, vem, veq, vln] at *; (try dsimp only [Shp.D, Shp.Ds, Shp.dflt, Shp.dflts] at *); first | done | omega | (exact ck_5 (by omega) p3 p1 (by omega) (.inl h)) | (exact ck_5 (by omega) p3 p1 (by omega) (.inr h)) | (exact ck_11 (by omega) p3 p1 (by omega) (by omega) (by omega) (by omega)) | (exact ck_7 (by omega) p3 p1 (by omega) (by omega) (by omega) (by omega) (by assumption) (by omega)) | (rw [ck_e (by omega) p3 (by assumption), if_pos (by omega)]; done) | (rw [ck_e (by omega) p3 (by assumption), if_neg (by omega), if_pos ⟨by omega, by omega⟩]; done) | skip)))
 all_goals first
  | (with_reducible show Goes _ _ _ _; skip)
  | (exact ck_e7 (by omega) p3 (by assumption) (by assumption) (by assumption) (by assumption) (by assumption) h)
  | (exact ck_e0 (by omega) p3 (by assumption) (by assumption) (by assumption) (by assumption) h)
  | (exact ck_e00 (by omega) p3 (by assumption) h)
  | (try ((try dsimp only [Shp.D, Shp.Ds, Shp.dflt] at *); simp only [vla, vem, veq, vln] at *; (try dsimp only [Shp.D, Shp.Ds, Shp.dflt, Shp.dflts] at *)))
 ·with_reducible refine hR1 _ ?_ (fun zq bq tq yq hUq => ?_)
  ·exact EndOk.au
  have q12 := hUq.z 12
  cbv at q12
  replace q12 := q12.eq
  simp only [atI, atB, atT, atY, convL_self, vem, veq, ne_eq, cmpI, arI, dvI, shI, SV.den] at q12
  clear hUq hR1
  try dsimp only [Shp.D, Shp.Ds, Shp.dflt] at *
  try simp only [vem, veq, ne_eq, cmpI, arI, dvI, shI, SV.den, elemAt, convL_self] at *
  try dsimp only [Shp.D, Shp.Ds, Shp.dflt, Shp.dflts] at *
  refine ⟨⟨by omega, by omega, ck_go p3 p1 (by omega) (by assumption) (by assumption) (by assumption) (.inr (by omega)) (by omega)⟩, by omega⟩
 ·with_reducible refine hR1 _ ?_ (fun zq bq tq yq hUq => ?_)
  ·exact EndOk.au
  have q12 := hUq.z 12
  cbv at q12
  replace q12 := q12.eq
  simp only [atI, atB, atT, atY, convL_self, vem, veq, ne_eq, cmpI, arI, dvI, shI, SV.den] at q12
  clear hUq hR1
  try dsimp only [Shp.D, Shp.Ds, Shp.dflt] at *
  try simp only [vem, veq, ne_eq, cmpI, arI, dvI, shI, SV.den, elemAt, convL_self] at *
  try dsimp only [Shp.D, Shp.Ds, Shp.dflt, Shp.dflts] at *
  refine ⟨⟨by omega, by omega, ck_go p3 p1 (by omega) (by assumption) (by assumption) (by assumption) (.inl (by assumption)) (by omega)⟩, by omega⟩
end
end Go.Proofs.YtkifmppmfkpfbaaGreat.V.Ch
