import Derived.Test.YtkifmppmfkpfbaaGreatW21
import Derived.Test.YtkifmppmfkpfbaaGreatW29
import Derived.Test.YtkifmppmfkpfbaaGreatW16
set_option linter.unusedVariables false
set_option linter.unusedSimpArgs false
namespace Go.Proofs.YtkifmppmfkpfbaaGreat.V
open Go.RowKit
section
set_option maxHeartbeats 8000000
set_option maxRecDepth 100000
theorem ckn_fn : hasFn Tryz.prog 109 := ⟨_, Tryz.func109, by rfl, by rfl⟩
abbrev cknSp : Spec := fnSpec [.sl .byte] [.int .i64] [] (fun _ => True) fun (x : Shp.Ds [.sl .byte]) (y : Shp.Ds [.int .i64]) => y.1 = cknF x.1.length
theorem ckn_sp {E : Env} (hE : E.ok) : SpecOk Tryz.prog E 109 cknSp := by
 refine spec_of_vc (C := noC) ckn_fn Tryz.func109 (by kernel_rfl) noC_cx (fun x hl hx => ?_) hE
 obtain ⟨l, ⟨⟩⟩ := x
 cbv
 (repeat' (first|((with_reducible apply And.intro <;> intro h) <;> (first|(with_reducible first|exact (tf h ‹_›).elim|exact (tf ‹_› h).elim)|cbv))|((with_reducible first|apply Cb.mk|apply Lz.mk|apply JoinT.left|(apply AllT.mk;intro x hx));cbv)|((with_reducible refine Ob.mk (fun _ => ?_) ?_);rotate_left 1)|(with_reducible first|refine Mg.mk (Exists.intro ?_ (And.intro ?_ ?_))|rfl|apply Fin.mk|exact True.intro|apply And.intro)))
 all_goals first|(with_reducible first|show (∃ _, unr _ _ _ _ _ _)|show UnrI _ _ _ _ _|show Goes _ _ _ _|show JoinT _ _ _ _ _ _ _)|(((try dsimp only [Shp.D, Shp.Ds, Shp.dflt] at *); simp only [vla, vem, veq, vln] at *; (try dsimp only [Shp.D, Shp.Ds, Shp.dflt, Shp.dflts] at *); first | done | omega | (unfold cknF; rw [if_pos (by omega)]) | (unfold cknF; rw [if_neg (by omega)])))
theorem cki_fn : hasFn Tryz.prog 107 := ⟨_, Tryz.func107, by rfl, by rfl⟩
abbrev ckiSp : Spec := fnSpec [idE] [.int .i64] [] (fun _ => True) fun (x : Shp.Ds [idE]) (y : Shp.Ds [.int .i64]) => y.1 = ckiF x.1.1 x.1.2.1.length
theorem cki_sp {E : Env} (hE : E.ok) : SpecOk Tryz.prog E 107 ckiSp := by
 refine spec_of_vc (C := noC) cki_fn Tryz.func107 (by kernel_rfl) noC_cx (fun x hl hx => ?_) hE
 obtain ⟨⟨k, l, ⟨⟩⟩, ⟨⟩⟩ := x
 cbv
 (repeat' (first|((with_reducible apply And.intro <;> intro h) <;> (first|(with_reducible first|exact (tf h ‹_›).elim|exact (tf ‹_› h).elim)|cbv))|((with_reducible first|apply Cb.mk|apply Lz.mk|apply JoinT.left|(apply AllT.mk;intro x hx));cbv)|((with_reducible refine Ob.mk (fun _ => ?_) ?_);rotate_left 1)|(with_reducible first|refine Mg.mk (Exists.intro ?_ (And.intro ?_ ?_))|rfl|apply Fin.mk|exact True.intro|apply And.intro)))
 all_goals first|(with_reducible first|show (∃ _, unr _ _ _ _ _ _)|show UnrI _ _ _ _ _|show Goes _ _ _ _|show JoinT _ _ _ _ _ _ _)|(((try dsimp only [Shp.D, Shp.Ds, Shp.dflt] at *); simp only [vla, vem, veq, vln] at *; (try dsimp only [Shp.D, Shp.Ds, Shp.dflt, Shp.dflts] at *); first | done | omega | (unfold ckiF; (repeat' split) <;> omega)))
theorem cke_fn : hasFn Tryz.prog 106 := ⟨_, Tryz.func106, by rfl, by rfl⟩
abbrev ckeSp : Spec := fnSpec [idE] [.int .i64] [] (fun _ => True) fun (x : Shp.Ds [idE]) (y : Shp.Ds [.int .i64]) => y.1 = ckeF x.1.2.1.length
theorem cke_sp {E : Env} (hE : E.ok) : SpecOk Tryz.prog E 106 ckeSp := by
 refine spec_of_vc (C := noC) cke_fn Tryz.func106 (by kernel_rfl) noC_cx (fun x hl hx => ?_) hE
 obtain ⟨⟨k, l, ⟨⟩⟩, ⟨⟩⟩ := x
 cbv
 (repeat' (first|((with_reducible apply And.intro <;> intro h) <;> (first|(with_reducible first|exact (tf h ‹_›).elim|exact (tf ‹_› h).elim)|cbv))|((with_reducible first|apply Cb.mk|apply Lz.mk|apply JoinT.left|(apply AllT.mk;intro x hx));cbv)|((with_reducible refine Ob.mk (fun _ => ?_) ?_);rotate_left 1)|(with_reducible first|refine Mg.mk (Exists.intro ?_ (And.intro ?_ ?_))|rfl|apply Fin.mk|exact True.intro|apply And.intro)))
 all_goals first|(with_reducible first|show (∃ _, unr _ _ _ _ _ _)|show UnrI _ _ _ _ _|show Goes _ _ _ _|show JoinT _ _ _ _ _ _ _)|(((try dsimp only [Shp.D, Shp.Ds, Shp.dflt] at *); simp only [vla, vem, veq, vln] at *; (try dsimp only [Shp.D, Shp.Ds, Shp.dflt, Shp.dflts] at *); first | done | omega | (unfold ckeF; (repeat' split) <;> omega)))
theorem cka_fn : hasFn Tryz.prog 108 := ⟨_, Tryz.func108, by rfl, by rfl⟩
abbrev ckaSp : Spec := fnSpec [idE] [.int .i64] [] (fun _ => True) fun (x : Shp.Ds [idE]) (y : Shp.Ds [.int .i64]) => y.1 = ckaF x.1.1 x.1.2.1.length
theorem cka_sp {E : Env} (hE : E.ok) : SpecOk Tryz.prog E 108 ckaSp := by
 refine spec_of_vc (C := noC) cka_fn Tryz.func108 (by kernel_rfl) noC_cx (fun x hl hx => ?_) hE
 obtain ⟨⟨k, l, ⟨⟩⟩, ⟨⟩⟩ := x
 cbv
 (repeat' (first|((with_reducible apply And.intro <;> intro h) <;> (first|(with_reducible first|exact (tf h ‹_›).elim|exact (tf ‹_› h).elim)|cbv))|((with_reducible first|apply Cb.mk|apply Lz.mk|apply JoinT.left|(apply AllT.mk;intro x hx));cbv)|((with_reducible refine Ob.mk (fun _ => ?_) ?_);rotate_left 1)|(with_reducible first|refine Mg.mk (Exists.intro ?_ (And.intro ?_ ?_))|rfl|apply Fin.mk|exact True.intro|apply And.intro)))
 all_goals first|(with_reducible first|show (∃ _, unr _ _ _ _ _ _)|show UnrI _ _ _ _ _|show Goes _ _ _ _|show JoinT _ _ _ _ _ _ _)|(((try dsimp only [Shp.D, Shp.Ds, Shp.dflt] at *); simp only [vla, vem, veq, vln] at *; (try dsimp only [Shp.D, Shp.Ds, Shp.dflt, Shp.dflts] at *); first | done | omega | (unfold ckaF; (repeat' split) <;> omega)))
theorem cno_fn : hasFn Tryz.prog 121 := ⟨_, Tryz.func121, by rfl, by rfl⟩
abbrev cnoSp : Spec := fnSpec [.int .i64, .int .i64] [.int .i64] [] (fun _ => True) fun (x : Shp.Ds [.int .i64, .int .i64]) (y : Shp.Ds [.int .i64]) => y.1 = cnoF x.1 x.2.1
theorem cno_sp {E : Env} (hE : E.ok) : SpecOk Tryz.prog E 121 cnoSp := by
 refine spec_of_vc (C := noC) cno_fn Tryz.func121 (by kernel_rfl) noC_cx (fun x hl hx => ?_) hE
 obtain ⟨p, n, ⟨⟩⟩ := x
 cbv
 (repeat' (first|((with_reducible apply And.intro <;> intro h) <;> (first|(with_reducible first|exact (tf h ‹_›).elim|exact (tf ‹_› h).elim)|cbv))|((with_reducible first|apply Cb.mk|apply Lz.mk|apply JoinT.left|(apply AllT.mk;intro x hx));cbv)|((with_reducible refine Ob.mk (fun _ => ?_) ?_);rotate_left 1)|(with_reducible first|refine Mg.mk (Exists.intro ?_ (And.intro ?_ ?_))|rfl|apply Fin.mk|exact True.intro|apply And.intro)))
 all_goals first|(with_reducible first|show (∃ _, unr _ _ _ _ _ _)|show UnrI _ _ _ _ _|show Goes _ _ _ _|show JoinT _ _ _ _ _ _ _)|(((try dsimp only [Shp.D, Shp.Ds, Shp.dflt] at *); simp only [vla, vem, veq, vln] at *; (try dsimp only [Shp.D, Shp.Ds, Shp.dflt, Shp.dflts] at *); first | done | omega | (unfold cnoF; (repeat' split) <;> omega)))
theorem cde_fn : hasFn Tryz.prog 122 := ⟨_, Tryz.func122, by rfl, by rfl⟩
abbrev cdeSp : Spec := fnSpec [.int .i64, .int .i64, .int .i64] [.int .i64] [] (fun _ => True) fun (x : Shp.Ds [.int .i64, .int .i64, .int .i64]) (y : Shp.Ds [.int .i64]) => y.1 = cdeF x.1 x.2.1 x.2.2.1
theorem cde_sp {E : Env} (hE : E.ok) : SpecOk Tryz.prog E 122 cdeSp := by
 refine spec_of_vc (C := noC) cde_fn Tryz.func122 (by kernel_rfl) noC_cx (fun x hl hx => ?_) hE
 obtain ⟨p, n, c, ⟨⟩⟩ := x
 cbv
 (repeat' (first|((with_reducible apply And.intro <;> intro h) <;> (first|(with_reducible first|exact (tf h ‹_›).elim|exact (tf ‹_› h).elim)|cbv))|((with_reducible first|apply Cb.mk|apply Lz.mk|apply JoinT.left|(apply AllT.mk;intro x hx));cbv)|((with_reducible refine Ob.mk (fun _ => ?_) ?_);rotate_left 1)|(with_reducible first|refine Mg.mk (Exists.intro ?_ (And.intro ?_ ?_))|rfl|apply Fin.mk|exact True.intro|apply And.intro)))
 all_goals first|(with_reducible first|show (∃ _, unr _ _ _ _ _ _)|show UnrI _ _ _ _ _|show Goes _ _ _ _|show JoinT _ _ _ _ _ _ _)|(((try dsimp only [Shp.D, Shp.Ds, Shp.dflt] at *); simp only [vla, vem, veq, vln] at *; (try dsimp only [Shp.D, Shp.Ds, Shp.dflt, Shp.dflts] at *); first | done | omega | (unfold cdeF; (repeat' split) <;> omega)))
abbrev fixE : Shp := .st [.int .u8, .int .u8, .int .u8, .int .u8]
def fixF (b : List UInt8) : Int × Int × Int × Int × Unit := (at1 b 0, at1 b 1, at1 b 2, at1 b 3, ())
theorem cut_rest {l : List UInt8} : [] ++ List.take ((l.length : Int).toNat - Int.toNat 4) (List.drop (Int.toNat 4) l) = List.drop 4 l := by
 rw [List.nil_append, List.take_of_length_le]
 ·rfl
 ·rw [List.length_drop]
  omega
theorem cut_fn : hasFn Tryz.prog 119 := ⟨_, Tryz.func119, by rfl, by rfl⟩
theorem nub_2 {x y : Int} (h0 : 0 ≤ x ∧ x < 256) (g0 : 0 ≤ y ∧ y < 256) : bits .or .i64 ((((x + 9223372036854775808) % 18446744073709551616 - 9223372036854775808) * 2 ^ min (Int.toNat 8) IntKind.i64.bits + 9223372036854775808) % 18446744073709551616 - 9223372036854775808) ((y + 9223372036854775808) % 18446744073709551616 - 9223372036854775808) = x * 256 + y := by
 rw [show (x + 9223372036854775808) % 18446744073709551616 - 9223372036854775808 = x by omega, show (y + 9223372036854775808) % 18446744073709551616 - 9223372036854775808 = y by omega]
 have e : (x * 2 ^ min (Int.toNat 8) IntKind.i64.bits + 9223372036854775808) % 18446744073709551616 - 9223372036854775808 = x * 256 := by
  show (x * 2 ^ 8 + _) % _ - _ = _
  omega
 rw [e, bits_join .i64 63 (by decide) (fun n h0 h1 => by rw [IntKind.wrap_i64]; omega) 8 _ _ (by omega) (by omega) (by omega) (by omega) (by omega) (by omega)]
structure FixR (f : Int × Int × Int × Int × Unit) : Prop where
 h : (0 ≤ f.1 ∧ f.1 < 256) ∧ (0 ≤ f.2.1 ∧ f.2.1 < 256) ∧ (0 ≤ f.2.2.1 ∧ f.2.2.1 < 256) ∧ (0 ≤ f.2.2.2.1 ∧ f.2.2.2.1 < 256)
theorem fix_r (b : List UInt8) : FixR (fixF b) := ⟨at1_rng b 0, at1_rng b 1, at1_rng b 2, at1_rng b 3⟩
theorem nub_fn : hasFn Tryz.prog 120 := ⟨_, Tryz.func120, by rfl, by rfl⟩
abbrev nubSp : Spec := fnSpec [fixE, .int .i64] [.int .i64] [] (fun (x : Shp.Ds [fixE, .int .i64]) => FixR x.1 ∧ (x.2.1 = 0 ∨ x.2.1 = 2)) fun (x : Shp.Ds [fixE, .int .i64]) (y : Shp.Ds [.int .i64]) => y.1 = if x.2.1 = 0 then x.1.1 * 256 + x.1.2.1 else x.1.2.2.1 * 256 + x.1.2.2.2.1
theorem nub_sp {E : Env} (hE : E.ok) : SpecOk Tryz.prog E 120 nubSp := by
 refine spec_of_vc (C := noC) nub_fn Tryz.func120 (by kernel_rfl) noC_cx (fun x hl hx => ?_) hE
 obtain ⟨⟨a, b, c, d, ⟨⟩⟩, k, ⟨⟩⟩ := x
 obtain ⟨hr, hx⟩ := hx
 have hx : k = 0 ∨ k = 2 := hx
 obtain ⟨ha, hb, hc, hd⟩ : (0 ≤ a ∧ a < 256) ∧ (0 ≤ b ∧ b < 256) ∧ (0 ≤ c ∧ c < 256) ∧ (0 ≤ d ∧ d < 256) := hr.h
 rcases hx with rfl | rfl
 ·cbv
  (repeat' (first|((with_reducible apply And.intro <;> intro h) <;> (first|(with_reducible first|exact (tf h ‹_›).elim|exact (tf ‹_› h).elim)|cbv))|((with_reducible first|apply Cb.mk|apply Lz.mk|apply JoinT.left|(apply AllT.mk;intro x hx));cbv)|((with_reducible refine Ob.mk (fun _ => ?_) ?_);rotate_left 1)|(with_reducible first|refine Mg.mk (Exists.intro ?_ (And.intro ?_ ?_))|rfl|apply Fin.mk|exact True.intro|apply And.intro)))
  all_goals first|(with_reducible first|show (∃ _, unr _ _ _ _ _ _)|show UnrI _ _ _ _ _|show Goes _ _ _ _|show JoinT _ _ _ _ _ _ _)|(((try dsimp only [Shp.D, Shp.Ds, Shp.dflt] at *); simp only [vla, vem, veq, vln] at *; (try dsimp only [Shp.D, Shp.Ds, Shp.dflt, Shp.dflts] at *); first | done | omega | (rw [show (0 + 1 + 9223372036854775808 : Int) % 18446744073709551616 - 9223372036854775808 = 1 from rfl, if_pos trivial]; simp only [denL, den_t]; exact nub_2 ha hb)))
 ·cbv
  (repeat' (first|((with_reducible apply And.intro <;> intro h) <;> (first|(with_reducible first|exact (tf h ‹_›).elim|exact (tf ‹_› h).elim)|cbv))|((with_reducible first|apply Cb.mk|apply Lz.mk|apply JoinT.left|(apply AllT.mk;intro x hx));cbv)|((with_reducible refine Ob.mk (fun _ => ?_) ?_);rotate_left 1)|(with_reducible first|refine Mg.mk (Exists.intro ?_ (And.intro ?_ ?_))|rfl|apply Fin.mk|exact True.intro|apply And.intro)))
  all_goals first|(with_reducible first|show (∃ _, unr _ _ _ _ _ _)|show UnrI _ _ _ _ _|show Goes _ _ _ _|show JoinT _ _ _ _ _ _ _)|(((try dsimp only [Shp.D, Shp.Ds, Shp.dflt] at *); simp only [vla, vem, veq, vln] at *; (try dsimp only [Shp.D, Shp.Ds, Shp.dflt, Shp.dflts] at *); first | done | omega | (rw [show (2 + 1 + 9223372036854775808 : Int) % 18446744073709551616 - 9223372036854775808 = 3 from rfl, if_neg (by decide)]; simp only [denL, den_t]; exact nub_2 hc hd)))
def inS (l : List (List UInt8)) (x : List UInt8) : Bool := l.any fun t => x == t
theorem inS_contains (l : List (List UInt8)) (x : List UInt8) : l.contains x = inS l x := by
 unfold inS
 induction l with
 | nil => rfl
 | cons y l ih => simp only [List.contains_cons, List.any_cons, ih]
theorem inS_yes {l : List (List UInt8)} {x : List UInt8} {k : Nat} (hk : k < l.length) (h : (x == l.getD k []) = true) : inS l x = true := by
 unfold inS
 rw [List.any_eq_true]
 refine ⟨l[k], List.getElem_mem hk, ?_⟩
 rw [List.getD_eq_getElem?_getD, List.getElem?_eq_getElem hk] at h
 exact h
theorem inS_next {l : List (List UInt8)} {x : List UInt8} {k : Nat} (hk : k < l.length) (hr : inS (l.drop k) x = inS l x) (h : (x == l.getD k []) = false) : inS (l.drop (k + 1)) x = inS l x := by
 rw [← hr]
 unfold inS
 rw [anyd l _ [] k hk, h, Bool.false_or]
abbrev cs1As : List Shp := [.sl .byte, .sl (.sl .byte)]
abbrev cs1Vs : List AV := [.v, .p 1]
def cs1C_t : SpecT := lf0 136 (weqFn)
def cs1C : Cx := ⟨tt, qt, bt, st, cs1C_t, 0, 1000000000000000, fun _ => none, false, CxE.no, []⟩
theorem cs1C_si {E : Env} (h : E.ok) : SpecsOk Tryz.prog E (CxE.no) cs1C_t (fun _ => none) := ⟨(lf0_ok (.inl (weq_sp h))), noI_ok _ _ _⟩
theorem cs1C_x {E : Env} (h : E.ok) : CxEOk Tryz.prog E (CxE.no) := CxE.no_ok _ _
theorem cs1C_cx (E : Env) (h : E.ok) (h1 : E.lo = 0) (h2 : E.hi = 1000000000000000) : Cx.ok cs1C Tryz.prog E := ⟨tt_ok, qt_ok, bt_ok, cs1C_si h, h, h1, h2, mixed_ok, cs1C_x h⟩
theorem cs1_fn : hasFn Tryz.prog 135 := ⟨_, Tryz.func135, by rfl, by rfl⟩
abbrev cs1Sp : Spec := fnSpecV cs1Vs cs1As [.bool] [] (fun (x : Shp.Ds cs1As) => x.2.1.length = 1) fun (x : Shp.Ds cs1As) (y : Shp.Ds [.bool]) => y.1 = (x.2.1.getD 0 [] == x.1)
theorem cs1_sp {E : Env} (hE : E.ok) : SpecOk Tryz.prog E 135 cs1Sp := by
 refine spec_of_vcV (C := cs1C) cs1_fn Tryz.func135 (by kernel_rfl) cs1C_cx (fun x hl hx => ?_) hE
 obtain ⟨t, b, ⟨⟩⟩ := x
 have hx : b.length = 1 := hx
 cbv
 (repeat' (first|((with_reducible apply And.intro <;> intro h) <;> (first|(with_reducible first|exact (tf h ‹_›).elim|exact (tf ‹_› h).elim)|cbv))|((with_reducible first|apply Cb.mk|apply Lz.mk|apply JoinT.left|(apply AllT.mk;intro x hx));cbv)|((with_reducible refine Ob.mk (fun _ => ?_) ?_);rotate_left 1)|(with_reducible first|refine Mg.mk (Exists.intro ?_ (And.intro ?_ ?_))|rfl|apply Fin.mk|exact True.intro|apply And.intro)))
 all_goals first|(with_reducible first|show (∃ _, unr _ _ _ _ _ _)|show UnrI _ _ _ _ _|show Goes _ _ _ _|show JoinT _ _ _ _ _ _ _)|(((try dsimp only [Shp.D, Shp.Ds, Shp.dflt] at *); simp only [vla, vem, veq, vln] at *; (try dsimp only [Shp.D, Shp.Ds, Shp.dflt, Shp.dflts] at *); first | done | omega | rfl))
abbrev csiAs : List Shp := [.sl (.sl .byte), .sl (.sl .byte)]
abbrev csiVs : List AV := [.v, .f 135 [some 1]]
abbrev csiSp : Spec := fnSpecV csiVs csiAs [.int .i64] [] (fun (x : Shp.Ds csiAs) => x.2.1.length = 1) fun (x : Shp.Ds csiAs) (y : Shp.Ds [.int .i64]) => decide (0 ≤ y.1) = inS x.1 (x.2.1.getD 0 [])
def csiC_t : SpecT := lf0 135 (cs1Sp)
def csiC : Cx := ⟨tt, qt, bt, st, csiC_t, 0, 1000000000000000, fun _ => none, false, CxE.no, []⟩
theorem csiC_si {E : Env} (h : E.ok) : SpecsOk Tryz.prog E (CxE.no) csiC_t (fun _ => none) := ⟨(lf0_ok (.inl (cs1_sp h))), noI_ok _ _ _⟩
theorem csiC_x {E : Env} (h : E.ok) : CxEOk Tryz.prog E (CxE.no) := CxE.no_ok _ _
theorem csiC_cx (E : Env) (h : E.ok) (h1 : E.lo = 0) (h2 : E.hi = 1000000000000000) : Cx.ok csiC Tryz.prog E := ⟨tt_ok, qt_ok, bt_ok, csiC_si h, h, h1, h2, mixed_ok, csiC_x h⟩
theorem csi_fn : hasFn Tryz.prog 146 := ⟨_, Tryz.func146, by rfl, by rfl⟩
theorem csi_sp {E : Env} (hE : E.ok) : SpecOk Tryz.prog E 146 csiSp := by
 refine spec_of_vcV (C := csiC) csi_fn Tryz.func146 (by kernel_rfl) csiC_cx (fun x hl hx => ?_) hE
 obtain ⟨l, s0, ⟨⟩⟩ := x
 have hx : s0.length = 1 := hx
 have hlen : l.length ≤ 140737488355328 := by simp only [Shp.lims, Shp.lim] at hl; exact hl.1.1
 cbv
 (repeat' (first|((with_reducible apply And.intro <;> intro h) <;> (first|(with_reducible first|exact (tf h ‹_›).elim|exact (tf ‹_› h).elim)|cbv))|((with_reducible first|apply Cb.mk|apply Lz.mk|apply JoinT.left|(apply AllT.mk;intro x hx));cbv)|((with_reducible refine Ob.mk (fun _ => ?_) ?_);rotate_left 1)|(with_reducible first|refine Mg.mk (Exists.intro ?_ (And.intro ?_ ?_))|rfl|apply Fin.mk|exact True.intro|apply And.intro)))
 with_reducible refine loop_hv [] (5 :: rangeN 9 10) [] [] (fun z b t y => 0 ≤ z 8 ∧ z 8 ≤ (l.length : Int) ∧ inS (l.drop (z 8).toNat) (s0.getD 0 []) = inS l (s0.getD 0 [])) (fun z b t y => ((l.length : Int) - z 8).toNat) (by cbv) (by cbv) ?_ ?_ (fun z1 b1 t1 u1 y1 R1 hP1 hR1 => ?_)
 ·exact EndOk.au
 ·intro zq bq tq yq hUq
  have q8 := hUq.z 8
  cbv at q8
  replace q8 := q8.eq
  simp only [atI, atB, atT, atY, convL_self, vem, veq, ne_eq, cmpI, arI, dvI, shI, SV.den] at q8
  clear hUq
  try dsimp only [Shp.D, Shp.Ds, Shp.dflt] at *
  try simp only [vla, vem, veq] at *
  rw [← q8]
  exact ⟨by omega, by omega, rfl⟩
 obtain ⟨p1, p2, p3⟩ := hP1
 cbv
 (repeat' (first|((with_reducible apply And.intro <;> intro h) <;> (first|(with_reducible first|exact (tf h ‹_›).elim|exact (tf ‹_› h).elim)|cbv))|((with_reducible first|apply Cb.mk|apply Lz.mk|apply JoinT.left|(apply AllT.mk;intro x hx));cbv)|((with_reducible refine Ob.mk (fun _ => ?_) ?_);rotate_left 1)|(with_reducible first|refine Mg.mk (Exists.intro ?_ (And.intro ?_ ?_))|rfl|apply Fin.mk|exact True.intro|apply And.intro)))
 all_goals first | (with_reducible show Goes _ _ _ _; skip) | (clear hR1)
 all_goals first|(with_reducible first|show (∃ _, unr _ _ _ _ _ _)|show UnrI _ _ _ _ _|show Goes _ _ _ _|show JoinT _ _ _ _ _ _ _)|(((try dsimp only [Shp.D, Shp.Ds, Shp.dflt] at *); simp only [vla, vem, veq, vln] at *; (try dsimp only [Shp.D, Shp.Ds, Shp.dflt, Shp.dflts] at *); first | done | omega | (rw [inS_yes (k := (z1 8).toNat) (by omega) (hx.1.symm.trans h)]; exact decide_eq_true p1) | (rw [List.drop_eq_nil_of_le (by omega)] at p3; rw [← p3]; rfl)))
 with_reducible refine hR1 _ ?_ (fun zq bq tq yq hUq => ?_)
 ·exact EndOk.au
 have q8 := hUq.z 8
 cbv at q8
 replace q8 := q8.eq
 simp only [atI, atB, atT, atY, convL_self, vem, veq, ne_eq, cmpI, arI, dvI, shI, SV.den] at q8
 clear hUq hR1
 try dsimp only [Shp.D, Shp.Ds, Shp.dflt] at *
 try simp only [vem, veq, ne_eq, cmpI, arI, dvI, shI, SV.den, elemAt, convL_self] at *
 try dsimp only [Shp.D, Shp.Ds, Shp.dflt, Shp.dflts] at *
 refine ⟨⟨by omega, by omega, ?_⟩, by omega⟩
 rw [show (zq 8).toNat = (z1 8).toNat + 1 by omega]
 exact inS_next (by omega) p3 (hx.1.symm.trans h)
abbrev cscSp : Spec := fnSpecV csiVs csiAs [.bool] [] (fun (x : Shp.Ds csiAs) => x.2.1.length = 1) fun (x : Shp.Ds csiAs) (y : Shp.Ds [.bool]) => y.1 = inS x.1 (x.2.1.getD 0 [])
def cscC_t : SpecT := lf0 146 (csiSp)
def cscC : Cx := ⟨tt, qt, bt, st, cscC_t, 0, 1000000000000000, fun _ => none, false, CxE.no, []⟩
theorem cscC_si {E : Env} (h : E.ok) : SpecsOk Tryz.prog E (CxE.no) cscC_t (fun _ => none) := ⟨(lf0_ok (.inl (csi_sp h))), noI_ok _ _ _⟩
theorem cscC_x {E : Env} (h : E.ok) : CxEOk Tryz.prog E (CxE.no) := CxE.no_ok _ _
theorem cscC_cx (E : Env) (h : E.ok) (h1 : E.lo = 0) (h2 : E.hi = 1000000000000000) : Cx.ok cscC Tryz.prog E := ⟨tt_ok, qt_ok, bt_ok, cscC_si h, h, h1, h2, mixed_ok, cscC_x h⟩
theorem csc_fn : hasFn Tryz.prog 134 := ⟨_, Tryz.func134, by rfl, by rfl⟩
theorem csc_sp {E : Env} (hE : E.ok) : SpecOk Tryz.prog E 134 cscSp := by
 refine spec_of_vcV (C := cscC) csc_fn Tryz.func134 (by kernel_rfl) cscC_cx (fun x hl hx => ?_) hE
 obtain ⟨l, b, ⟨⟩⟩ := x
 have hx : b.length = 1 := hx
 cbv
 (repeat' (first|((with_reducible apply And.intro <;> intro h) <;> (first|(with_reducible first|exact (tf h ‹_›).elim|exact (tf ‹_› h).elim)|cbv))|((with_reducible first|apply Cb.mk|apply Lz.mk|apply JoinT.left|(apply AllT.mk;intro x hx));cbv)|((with_reducible refine Ob.mk (fun _ => ?_) ?_);rotate_left 1)|(with_reducible first|refine Mg.mk (Exists.intro ?_ (And.intro ?_ ?_))|rfl|apply Fin.mk|exact True.intro|apply And.intro)))
 all_goals first|(with_reducible first|show (∃ _, unr _ _ _ _ _ _)|show UnrI _ _ _ _ _|show Goes _ _ _ _|show JoinT _ _ _ _ _ _ _)|(((try dsimp only [Shp.D, Shp.Ds, Shp.dflt] at *); simp only [vla, vem, veq, vln] at *; (try dsimp only [Shp.D, Shp.Ds, Shp.dflt, Shp.dflts] at *); first | done | omega | (exact hx.1)))
theorem dup_at {l : List (List UInt8)} {k : Nat} (hk : k < l.length) : dupS (l.take k) (l.drop k) = (inS (l.take k) (l.getD k []) || dupS (l.take (k + 1)) (l.drop (k + 1))) := by
 rw [List.drop_eq_getElem_cons hk, dupS, inS_contains, List.getD_eq_getElem?_getD, List.getElem?_eq_getElem hk, List.take_succ_eq_append_getElem hk]
 rfl
theorem dup_end {l : List (List UInt8)} {k : Nat} (hk : l.length ≤ k) : dupS (l.take k) (l.drop k) = false := by
 rw [List.drop_eq_nil_of_le hk, dupS]
theorem chs_0 {p z : Int} {l : List (List UInt8)} (hne : ¬ (p ≠ 1 ∧ l = [])) (h : dupS (l.take z.toNat) (l.drop z.toNat) = dupS [] l) (h0 : 0 ≤ z) (hz : (l.length : Int) ≤ z) : 0 = chsF p l := by
 rw [dup_end (by omega)] at h
 unfold chsF
 rw [if_neg hne, ← h]
 rfl
theorem chs_9 {p z : Int} {l : List (List UInt8)} {b : Bool} {Q : Prop} (hne : ¬ (p ≠ 1 ∧ l = [])) (h : dupS (l.take z.toNat) (l.drop z.toNat) = dupS [] l) (h0 : 0 ≤ z) (hz : z < (l.length : Int)) (hb : b = inS (l.take z.toNat) (l.getD z.toNat []) ∧ Q) (ht : b = true) : 9 = chsF p l := by
 rw [dup_at (by omega), ← hb.1, ht, Bool.true_or] at h
 unfold chsF
 rw [if_neg hne, ← h]
 rfl
theorem chs_next {z zq : Int} {l : List (List UInt8)} {b : Bool} {Q : Prop} (h0 : 0 ≤ z) (hz : z < (l.length : Int)) (h : dupS (l.take z.toNat) (l.drop z.toNat) = dupS [] l) (hb : b = inS (l.take z.toNat) (l.getD z.toNat []) ∧ Q) (ht : b = false) (q : (z + 1 + 9223372036854775808) % 18446744073709551616 - 9223372036854775808 = zq) (hl : l.length ≤ 140737488355328 := by assumption) : dupS (l.take zq.toNat) (l.drop zq.toNat) = dupS [] l := by
 rw [dup_at (by omega), ← hb.1, ht, Bool.false_or] at h
 rw [show zq.toNat = z.toNat + 1 by omega]
 exact h
def chsC_t : SpecT := lf0 134 (cscSp)
def chsC : Cx := ⟨tt, qt, bt, st, chsC_t, 0, 1000000000000000, fun _ => none, false, CxE.no, []⟩
theorem chsC_si {E : Env} (h : E.ok) : SpecsOk Tryz.prog E (CxE.no) chsC_t (fun _ => none) := ⟨(lf0_ok (.inl (csc_sp h))), noI_ok _ _ _⟩
theorem chsC_x {E : Env} (h : E.ok) : CxEOk Tryz.prog E (CxE.no) := CxE.no_ok _ _
theorem chsC_cx (E : Env) (h : E.ok) (h1 : E.lo = 0) (h2 : E.hi = 1000000000000000) : Cx.ok chsC Tryz.prog E := ⟨tt_ok, qt_ok, bt_ok, chsC_si h, h, h1, h2, mixed_ok, chsC_x h⟩
theorem chs_fn : hasFn Tryz.prog 123 := ⟨_, Tryz.func123, by rfl, by rfl⟩
abbrev chsSp : Spec := fnSpec [delE] [.int .i64] [] (fun _ => True) fun (x : Shp.Ds [delE]) (y : Shp.Ds [.int .i64]) => y.1 = chsF x.1.1 x.1.2.1
theorem chs_sp {E : Env} (hE : E.ok) : SpecOk Tryz.prog E 123 chsSp := by
 refine spec_of_vc (C := chsC) chs_fn Tryz.func123 (by kernel_rfl) chsC_cx (fun x hl hx => ?_) hE
 obtain ⟨⟨p, l, ⟨⟩⟩, ⟨⟩⟩ := x
 have hlen : l.length ≤ 140737488355328 := by simp only [Shp.lims, Shp.lim] at hl; exact hl.1.2.1.1
 clear hl
 cbv
 (repeat' (first|((with_reducible apply And.intro <;> intro h) <;> (first|(with_reducible first|exact (tf h ‹_›).elim|exact (tf ‹_› h).elim)|cbv))|((with_reducible first|apply Cb.mk|apply Lz.mk|apply JoinT.left|(apply AllT.mk;intro x hx));cbv)|((with_reducible refine Ob.mk (fun _ => ?_) ?_);rotate_left 1)|(with_reducible first|refine Mg.mk (Exists.intro ?_ (And.intro ?_ ?_))|rfl|apply Fin.mk|exact True.intro|apply And.intro)))
 all_goals first|(with_reducible first|show (∃ _, unr _ _ _ _ _ _)|show UnrI _ _ _ _ _|show Goes _ _ _ _|show JoinT _ _ _ _ _ _ _)|((try ((try dsimp only [Shp.D, Shp.Ds, Shp.dflt] at *); simp only [vla, vem, veq, vln] at *; (try dsimp only [Shp.D, Shp.Ds, Shp.dflt, Shp.dflts] at *); first | done | omega | skip)))
 all_goals first
  | (with_reducible show (∃ _, unr _ _ _ _ _ _); skip)
  | (unfold chsF; rw [if_pos ⟨by assumption, List.eq_nil_of_length_eq_zero (by omega)⟩])
 ·with_reducible refine loop_hv [] (3 :: 4 :: rangeN 19 9) [] [] (fun z b t y => 0 ≤ z 17 ∧ z 17 ≤ (l.length : Int) ∧ dupS (l.take (z 17).toNat) (l.drop (z 17).toNat) = dupS [] l) (fun z b t y => ((l.length : Int) - z 17).toNat) (by cbv) (by cbv) ?_ ?_ (fun z1 b1 t1 u1 y1 R1 hP1 hR1 => ?_)
  ·exact EndOk.au
  ·intro zq bq tq yq hUq
   have q17 := hUq.z 17
   cbv at q17
   replace q17 := q17.eq
   simp only [atI, atB, atT, atY, convL_self, vem, veq, ne_eq, cmpI, arI, dvI, shI, SV.den] at q17
   clear hUq
   try dsimp only [Shp.D, Shp.Ds, Shp.dflt] at *
   try simp only [vla, vem, veq] at *
   rw [← q17]
   exact ⟨by omega, by omega, rfl⟩
  obtain ⟨p1, p2, p3⟩ := hP1
  cbv
  (repeat' (first|((with_reducible apply And.intro <;> intro h) <;> (first|(with_reducible first|exact (tf h ‹_›).elim|exact (tf ‹_› h).elim)|cbv))|((with_reducible first|apply Cb.mk|apply Lz.mk|apply JoinT.left|(apply AllT.mk;intro x hx));cbv)|((with_reducible refine Ob.mk (fun _ => ?_) ?_);rotate_left 1)|(with_reducible first|refine Mg.mk (Exists.intro ?_ (And.intro ?_ ?_))|rfl|apply Fin.mk|exact True.intro|apply And.intro)))
  all_goals first|(with_reducible first|show (∃ _, unr _ _ _ _ _ _)|show UnrI _ _ _ _ _|show Goes _ _ _ _|show JoinT _ _ _ _ _ _ _)|((try ((try dsimp only [Shp.D, Shp.Ds, Shp.dflt] at *); simp only [vla, vem, veq, vln] at *; (try dsimp only [Shp.D, Shp.Ds, Shp.dflt, Shp.dflts] at *); first | done | omega | skip)))
  all_goals first
   | ((with_reducible show Goes _ _ _ _); ((with_reducible refine hR1 _ ?_ (fun zq bq tq yq hUq => ?_)); (focus (exact EndOk.au)); (have q17 := hUq.z 17); (cbv at q17); (replace q17 := q17.eq); (simp only [atI, atB, atT, atY, convL_self, vem, veq, ne_eq, cmpI, arI, dvI, shI, SV.den] at q17); (clear hUq hR1); (try dsimp only [Shp.D, Shp.Ds, Shp.dflt] at *); (try simp only [vem, veq, ne_eq, cmpI, arI, dvI, shI, SV.den, elemAt, convL_self] at *); (try dsimp only [Shp.D, Shp.Ds, Shp.dflt, Shp.dflts] at *)); (try ((try dsimp only [Shp.D, Shp.Ds, Shp.dflt] at *); simp only [vla, vem, veq, vln] at *; (try dsimp only [Shp.D, Shp.Ds, Shp.dflt, Shp.dflts] at *))); refine ⟨⟨by omega, by omega, ?_⟩, by omega⟩; exact chs_next p1 (by omega) p3 hx h q17)
   | exact ⟨by omega, by omega, by omega, trivial⟩
   | exact chs_0 (by rintro ⟨h1, h2⟩; have h3 := congrArg List.length h2; simp only [List.length_nil] at h3; omega) p3 p1 (by omega)
   | exact chs_9 (by rintro ⟨h1, h2⟩; have h3 := congrArg List.length h2; simp only [List.length_nil] at h3; omega) p3 p1 (by omega) hx h
 ·with_reducible refine loop_hv [] (3 :: 4 :: rangeN 19 9) [] [] (fun z b t y => 0 ≤ z 17 ∧ z 17 ≤ (l.length : Int) ∧ dupS (l.take (z 17).toNat) (l.drop (z 17).toNat) = dupS [] l) (fun z b t y => ((l.length : Int) - z 17).toNat) (by cbv) (by cbv) ?_ ?_ (fun z1 b1 t1 u1 y1 R1 hP1 hR1 => ?_)
  ·exact EndOk.au
  ·intro zq bq tq yq hUq
   have q17 := hUq.z 17
   cbv at q17
   replace q17 := q17.eq
   simp only [atI, atB, atT, atY, convL_self, vem, veq, ne_eq, cmpI, arI, dvI, shI, SV.den] at q17
   clear hUq
   try dsimp only [Shp.D, Shp.Ds, Shp.dflt] at *
   try simp only [vla, vem, veq] at *
   rw [← q17]
   exact ⟨by omega, by omega, rfl⟩
  obtain ⟨p1, p2, p3⟩ := hP1
  cbv
  (repeat' (first|((with_reducible apply And.intro <;> intro h) <;> (first|(with_reducible first|exact (tf h ‹_›).elim|exact (tf ‹_› h).elim)|cbv))|((with_reducible first|apply Cb.mk|apply Lz.mk|apply JoinT.left|(apply AllT.mk;intro x hx));cbv)|((with_reducible refine Ob.mk (fun _ => ?_) ?_);rotate_left 1)|(with_reducible first|refine Mg.mk (Exists.intro ?_ (And.intro ?_ ?_))|rfl|apply Fin.mk|exact True.intro|apply And.intro)))
  all_goals first|(with_reducible first|show (∃ _, unr _ _ _ _ _ _)|show UnrI _ _ _ _ _|show Goes _ _ _ _|show JoinT _ _ _ _ _ _ _)|((try ((try dsimp only [Shp.D, Shp.Ds, Shp.dflt] at *); simp only [vla, vem, veq, vln] at *; (try dsimp only [Shp.D, Shp.Ds, Shp.dflt, Shp.dflts] at *); first | done | omega | skip)))
  all_goals first
   | ((with_reducible show Goes _ _ _ _); ((with_reducible refine hR1 _ ?_ (fun zq bq tq yq hUq => ?_)); (focus (exact EndOk.au)); (have q17 := hUq.z 17); (cbv at q17); (replace q17 := q17.eq); (simp only [atI, atB, atT, atY, convL_self, vem, veq, ne_eq, cmpI, arI, dvI, shI, SV.den] at q17); (clear hUq hR1); (try dsimp only [Shp.D, Shp.Ds, Shp.dflt] at *); (try simp only [vem, veq, ne_eq, cmpI, arI, dvI, shI, SV.den, elemAt, convL_self] at *); (try dsimp only [Shp.D, Shp.Ds, Shp.dflt, Shp.dflts] at *)); (try ((try dsimp only [Shp.D, Shp.Ds, Shp.dflt] at *); simp only [vla, vem, veq, vln] at *; (try dsimp only [Shp.D, Shp.Ds, Shp.dflt, Shp.dflts] at *))); refine ⟨⟨by omega, by omega, ?_⟩, by omega⟩; exact chs_next p1 (by omega) p3 hx h q17)
   | exact ⟨by omega, by omega, by omega, trivial⟩
   | exact chs_0 (by rintro ⟨h1, h2⟩; have h3 := congrArg List.length h2; simp only [List.length_nil] at h3; omega) p3 p1 (by omega)
   | exact chs_9 (by rintro ⟨h1, h2⟩; have h3 := congrArg List.length h2; simp only [List.length_nil] at h3; omega) p3 p1 (by omega) hx h
end
section
set_option maxHeartbeats 8000000
set_option maxRecDepth 100000
theorem obsK_of : ∀ {l : List (Unit → Prop)} {K : Prop}, (∀ p ∈ l, p ()) → K → obsK l K
 | [], K, _, k => k
 | p :: l, K, h, k => ⟨fun _ => h p (List.mem_cons_self ..), obsK_of (fun q hq => h q (List.mem_cons_of_mem _ hq)) k⟩
theorem spec_cases {P : Program} {E : Env} {f : FuncId} (hn : hasFn P f) {az : List Shp} {tk : List (Option TypeId)} {rs : List Shp} {ros : List RO} {ls : List Nat} {pre : Shp.Ds az → Prop} {post : Shp.Ds az → Shp.Ds rs → Prop}
    (h : ∀ x, pre x → ∃ pre' : Shp.Ds az → Prop, pre' x ∧ SpecOk P E f (fnSpecT az tk rs ros ls pre' post)) : SpecOk P E f (fnSpecT az tk rs ros ls pre post) := by
 refine ⟨hn, ?_⟩
 intro lo hi id args s K hlo hhi hs ρ w hh hargs
 unfold fnSpecT at hs
 split at hs
 ·rename_i p hp
  unfold fnSpecI at hs
  split at hs
  ·rename_i d hd
   split at hs
   ·rename_i per hper
    obtain ⟨hc, hs⟩ := hs
    obtain ⟨hob, hs⟩ := obsK_spec hs
    obtain ⟨pre', hp', ok⟩ := h _ (hs.ob ())
    refine ok.calls lo hi id args s K hlo hhi ?_ ρ w hh hargs
    unfold fnSpecT
    rw [hp]
    show fnSpecI _ _ _ _ _ _ _ _ _ _ _ _ _
    unfold fnSpecI
    rw [hd, hper]
    exact ⟨hc, obsK_of hob ⟨fun _ => hp', hs.k⟩⟩
   ·exact hs.elim
  ·exact hs.elim
 ·exact hs.elim
theorem ckn_ge (n : Int) : GE (cknF n) := by
 unfold cknF
 (repeat' split) <;> first | exact ge_c 13 | exact ge_c 0
theorem cki_ge (k n : Int) : GE (ckiF k n) := by
 unfold ckiF
 (repeat' split) <;> first | exact ge_c 0 | exact ge_c 2 | exact ge_c 5
theorem cka_ge (k n : Int) : GE (ckaF k n) := by
 unfold ckaF
 (repeat' split) <;> first | exact ge_c 0 | exact ge_c 2 | exact ge_c 5
theorem cke_ge (n : Int) : GE (ckeF n) := by
 unfold ckeF
 (repeat' split) <;> first | exact ge_c 13 | exact ge_c 0
theorem cno_ge (p n : Int) : GE (cnoF p n) := by
 unfold cnoF
 (repeat' split) <;> first | exact ge_c 5 | exact ge_c 0 | exact ge_c 20
theorem cde_ge (p n c : Int) : GE (cdeF p n c) := by
 unfold cdeF
 (repeat' split) <;> first | exact ge_c 5 | exact ge_c 0 | exact ge_c 20
theorem chs_ge (p : Int) (l : List (List UInt8)) : GE (chsF p l) := by
 unfold chsF
 (repeat' split) <;> first | exact ge_c 8 | exact ge_c 0 | exact ge_c 9
theorem ge_of {e c : Int} {P : Prop} (h : e = c ∧ P) (g : GE c) : GE e := h.1 ▸ g
theorem ge_of2 {α : Type} {l : α} {e : Int} {c : α × Int} {P : Prop} (h : (l, e) = c ∧ P) (g : GE c.2) : GE e := by
 have := congrArg Prod.snd h.1
 exact (show e = c.2 from this) ▸ g
theorem fix_of {b r : List UInt8} {ok : Bool} {f : Int × Int × Int × Int × Unit} {Q : Prop} (h : ((ok = false ∧ b.length < 4) ∨ (ok = true ∧ 4 ≤ b.length ∧ f = fixF b ∧ r = b.drop 4)) ∧ Q) (ho : (!ok) = false) : FixR f := by
 rcases h.1 with k | k
 ·rw [k.1] at ho; cases ho
 ·exact k.2.2.1 ▸ fix_r b
abbrev cut2Sp : Spec := fnSpecT [.sl .byte] [none] [fixE, .sl .byte, .bool] [.sh] [] (fun _ => True) fun (x : Shp.Ds [.sl .byte]) (y : Shp.Ds [fixE, .sl .byte, .bool]) => (y.2.2.1 = false ∧ x.1.length < 4) ∨ (y.2.2.1 = true ∧ 4 ≤ x.1.length ∧ y.1 = fixF x.1 ∧ y.2.1 = x.1.drop 4)
theorem cut2_sp {E : Env} (hE : E.ok) : SpecOk Tryz.prog E 119 cut2Sp := by
 refine spec_of_vcT (C := noC) cut_fn Tryz.func119 (by kernel_rfl) noC_cx (fun x hl hx => ?_) hE
 obtain ⟨l, ⟨⟩⟩ := x
 have hlen : (l.length : Int) ≤ 140737488355328 := by simp only [Shp.lims, Shp.lim] at hl; omega
 cbv
 (repeat' (first|((with_reducible apply And.intro <;> intro h) <;> (first|(with_reducible first|exact (tf h ‹_›).elim|exact (tf ‹_› h).elim)|cbv)) | ((with_reducible show JoinT (fun s K => vc _ (Code.region _ _ true) s K) _ _ _ _ _ _); (with_reducible apply JoinT.mg2); (focus (cbv; (repeat' (first|((with_reducible apply And.intro <;> intro h) <;> (first|(with_reducible first|exact (tf h ‹_›).elim|exact (tf ‹_› h).elim)|cbv))|((with_reducible first|apply Cb.mk|apply Lz.mk|apply JoinT.left|(apply AllT.mk;intro x hx));cbv)|((with_reducible refine Ob.mk (fun _ => ?_) ?_);rotate_left 1)|(with_reducible first|refine Mg.mk (Exists.intro ?_ (And.intro ?_ ?_))|rfl|apply Fin.mk|exact True.intro|apply And.intro))); (all_goals (try (have du : Unit := (); have dv : Unit := (); first | exact Goes.self (Ex2.mk ⟨dv, du, trivial, trivial, rfl⟩) | exact Goes.self (Ex2.mk ⟨x, du, hx, trivial, rfl⟩) | (rename_i xa hxa; exact Goes.self (Ex2.mk ⟨xa, x, hxa, hx, rfl⟩))))); (all_goals (fail_if_success (with_reducible first | show Goes _ _ _ _ | show (∃ _, unr _ _ _ _ _ _)))))))|((with_reducible first|apply Cb.mk|apply Lz.mk|apply JoinT.left|(apply AllT.mk;intro x hx));cbv)|((with_reducible refine Ob.mk (fun _ => ?_) ?_);rotate_left 1)|(with_reducible first|refine Mg.mk (Exists.intro ?_ (And.intro ?_ ?_))|rfl|apply Fin.mk|exact True.intro|apply And.intro)))
 all_goals first|(with_reducible first|show (∃ _, unr _ _ _ _ _ _)|show UnrI _ _ _ _ _|show Goes _ _ _ _|show JoinT _ _ _ _ _ _ _)|((try ((try dsimp only [Shp.D, Shp.Ds, Shp.dflt] at *); simp only [vla, vem, veq, vln] at *; (try dsimp only [Shp.D, Shp.Ds, Shp.dflt, Shp.dflts] at *); first | done | omega | (exact .inl ⟨trivial, by omega⟩) | (simp only [List.length_take, List.length_drop]; omega) | (exact ⟨by decide, by omega, by omega, trivial⟩) | (exact .inr ⟨trivial, by omega, rfl, cut_rest⟩) | skip)))
def nubF (f : Int × Int × Int × Int × Unit) (k : Int) : Int := if k = 0 then f.1 * 256 + f.2.1 else f.2.2.1 * 256 + f.2.2.2.1
theorem nubF_2 (f : Int × Int × Int × Int × Unit) : nubF f 2 = f.2.2.1 * 256 + f.2.2.2.1 := rfl
abbrev nubFn : Spec := fnFn [fixE, .int .i64] [.int .i64] (fun (x : Shp.Ds [fixE, .int .i64]) => FixR x.1 ∧ (x.2.1 = 0 ∨ x.2.1 = 2)) fun (x : Shp.Ds [fixE, .int .i64]) => (nubF x.1 x.2.1, ())
theorem nubf_sp {E : Env} (hE : E.ok) : SpecOk Tryz.prog E 120 nubFn := fnFn_of (nub_sp hE) fun (x : Shp.Ds [fixE, .int .i64]) (y : Shp.Ds [.int .i64]) h => by rw [nubF, ← h]
theorem par_fn : hasFn Tryz.prog 62 := ⟨_, Tryz.func62, by rfl, by rfl⟩
abbrev parS (p : Int → Prop) : Spec := fnSpecT [rawE] [none] [plE, .int .i64] [.sh, .sh, .sh, .sh, .sh, .sh, .sh, .sh, .sh] [] (fun (x : Shp.Ds [rawE]) => p x.1.1 ∧ x.1.2.2.1.length ≤ 1073741824) fun (x : Shp.Ds [rawE]) (y : Shp.Ds [plE, .int .i64]) => GE y.2.1
end
end Go.Proofs.YtkifmppmfkpfbaaGreat.V
