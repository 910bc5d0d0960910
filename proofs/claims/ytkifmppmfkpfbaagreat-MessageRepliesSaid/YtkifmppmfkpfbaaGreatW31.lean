import Derived.Test.YtkifmppmfkpfbaaGreatW30
set_option linter.unusedVariables false
set_option linter.unusedSimpArgs false
namespace Go.Proofs.YtkifmppmfkpfbaaGreat.V
open Go.RowKit
section
set_option maxHeartbeats 80000000
set_option maxRecDepth 100000
theorem not_a {f : Int × Int × Int × Int × Unit} {L : Int} (F : FixR f) (h : ¬ (f.2.1 + 9223372036854775808) % 18446744073709551616 - 9223372036854775808 > L) : 0 ≤ (f.2.1 + 9223372036854775808) % 18446744073709551616 - 9223372036854775808 ∧ (f.2.1 + 9223372036854775808) % 18446744073709551616 - 9223372036854775808 ≤ L := by
 have := F.h
 exact ⟨by omega, by omega⟩
def zm_t : SpecT := fun _ => none
def zm : Cx := ⟨tt, qt, bt, st, zm_t, 0, 1000000000000000, fun _ => none, false, CxE.no, []⟩
theorem zm_si {E : Env} (h : E.ok) : SpecsOk Tryz.prog E (CxE.no) zm_t (fun _ => none) := ⟨(fun t f h => by cases h), noI_ok _ _ _⟩
theorem zm_x {E : Env} (h : E.ok) : CxEOk Tryz.prog E (CxE.no) := CxE.no_ok _ _
theorem zm_from (lo hi : Nat) (E : Env) (h : E.ok) (h1 : E.lo = lo) (h2 : E.hi = hi) : Cx.ok (Cx.from zm lo hi) Tryz.prog E := ⟨tt_ok, qt_ok, bt_ok, zm_si h, h, h1, h2, mixed_ok, zm_x h⟩
def zr_t : SpecT := nd0 118 (nd0 108 (nd0 107 (lf0 106 (ckeSp)) (lf0 107 (ckiSp))) (nd0 109 (lf0 108 (ckaSp)) (nd0 117 (lf0 109 (cknSp)) (lf0 117 (ppSp))))) (nd0 121 (nd0 119 (lf0 118 (parseSp)) (nd0 120 (lf0 119 (cut2Sp)) (lf0 120 (nubFn)))) (nd0 122 (lf0 121 (cnoSp)) (nd0 123 (lf0 122 (cdeSp)) (lf0 123 (chsSp)))))
def zr : Cx := ⟨tt, qt, bt, st, zr_t, 0, 1000000000000000, fun _ => none, false, CxE.no, []⟩
theorem zr_si {E : Env} (h : E.ok) : SpecsOk Tryz.prog E (CxE.no) zr_t (fun _ => none) := ⟨(nd0_ok (nd0_ok (nd0_ok (lf0_ok (.inl (cke_sp h))) (lf0_ok (.inl (cki_sp h)))) (nd0_ok (lf0_ok (.inl (cka_sp h))) (nd0_ok (lf0_ok (.inl (ckn_sp h))) (lf0_ok (.inl (pps_sp h)))))) (nd0_ok (nd0_ok (lf0_ok (.inl (sparse_sp h))) (nd0_ok (lf0_ok (.inl (cut2_sp h))) (lf0_ok (.inl (nubf_sp h))))) (nd0_ok (lf0_ok (.inl (cno_sp h))) (nd0_ok (lf0_ok (.inl (cde_sp h))) (lf0_ok (.inl (chs_sp h))))))), noI_ok _ _ _⟩
theorem zr_x {E : Env} (h : E.ok) : CxEOk Tryz.prog E (CxE.no) := CxE.no_ok _ _
theorem zr_from (lo hi : Nat) (E : Env) (h : E.ok) (h1 : E.lo = lo) (h2 : E.hi = hi) : Cx.ok (Cx.from zr lo hi) Tryz.prog E := ⟨tt_ok, qt_ok, bt_ok, zr_si h, h, h1, h2, mixed_ok, zr_x h⟩
def zc1_t : SpecT := fun _ => none
def zc1_i : SpecT := nd0 94 (lf0 81 (inlSpec zm Tryz.f81)) (lf0 94 (inlSpec zr Tryz.f94))
def zc1 : Cx := ⟨tt, qt, bt, st, zc1_t, 0, 1000000000000000, zc1_i, true, CxE.no, []⟩
theorem zc1_si {E : Env} (h : E.ok) : SpecsOk Tryz.prog E (CxE.no) zc1_t (zc1_i) := ⟨(fun t f h => by cases h), (nd0_ok (lf0_ok (inl_ok h zm_from Tryz.func81 ⟨by rfl, by rfl⟩ (by kernel_rfl))) (lf0_ok (inl_ok h zr_from Tryz.func94 ⟨by rfl, by rfl⟩ (by kernel_rfl))))⟩
theorem zc1_x {E : Env} (h : E.ok) : CxEOk Tryz.prog E (CxE.no) := CxE.no_ok _ _
theorem zc1_cx (E : Env) (h : E.ok) (h1 : E.lo = 0) (h2 : E.hi = 1000000000000000) : Cx.ok zc1 Tryz.prog E := ⟨tt_ok, qt_ok, bt_ok, zc1_si h, h, h1, h2, mixed_ok, zc1_x h⟩
def zc2_t : SpecT := fun _ => none
def zc2_i : SpecT := nd0 95 (lf0 81 (inlSpec zm Tryz.f81)) (lf0 95 (inlSpec zr Tryz.f95))
def zc2 : Cx := ⟨tt, qt, bt, st, zc2_t, 0, 1000000000000000, zc2_i, true, CxE.no, []⟩
theorem zc2_si {E : Env} (h : E.ok) : SpecsOk Tryz.prog E (CxE.no) zc2_t (zc2_i) := ⟨(fun t f h => by cases h), (nd0_ok (lf0_ok (inl_ok h zm_from Tryz.func81 ⟨by rfl, by rfl⟩ (by kernel_rfl))) (lf0_ok (inl_ok h zr_from Tryz.func95 ⟨by rfl, by rfl⟩ (by kernel_rfl))))⟩
theorem zc2_x {E : Env} (h : E.ok) : CxEOk Tryz.prog E (CxE.no) := CxE.no_ok _ _
theorem zc2_cx (E : Env) (h : E.ok) (h1 : E.lo = 0) (h2 : E.hi = 1000000000000000) : Cx.ok zc2 Tryz.prog E := ⟨tt_ok, qt_ok, bt_ok, zc2_si h, h, h1, h2, mixed_ok, zc2_x h⟩
def zc3_t : SpecT := fun _ => none
def zc3_i : SpecT := nd0 96 (lf0 81 (inlSpec zm Tryz.f81)) (lf0 96 (inlSpec zr Tryz.f96))
def zc3 : Cx := ⟨tt, qt, bt, st, zc3_t, 0, 1000000000000000, zc3_i, true, CxE.no, []⟩
theorem zc3_si {E : Env} (h : E.ok) : SpecsOk Tryz.prog E (CxE.no) zc3_t (zc3_i) := ⟨(fun t f h => by cases h), (nd0_ok (lf0_ok (inl_ok h zm_from Tryz.func81 ⟨by rfl, by rfl⟩ (by kernel_rfl))) (lf0_ok (inl_ok h zr_from Tryz.func96 ⟨by rfl, by rfl⟩ (by kernel_rfl))))⟩
theorem zc3_x {E : Env} (h : E.ok) : CxEOk Tryz.prog E (CxE.no) := CxE.no_ok _ _
theorem zc3_cx (E : Env) (h : E.ok) (h1 : E.lo = 0) (h2 : E.hi = 1000000000000000) : Cx.ok zc3 Tryz.prog E := ⟨tt_ok, qt_ok, bt_ok, zc3_si h, h, h1, h2, mixed_ok, zc3_x h⟩
def zc4_t : SpecT := fun _ => none
def zc4_i : SpecT := nd0 97 (lf0 81 (inlSpec zm Tryz.f81)) (lf0 97 (inlSpec zr Tryz.f97))
def zc4 : Cx := ⟨tt, qt, bt, st, zc4_t, 0, 1000000000000000, zc4_i, true, CxE.no, []⟩
theorem zc4_si {E : Env} (h : E.ok) : SpecsOk Tryz.prog E (CxE.no) zc4_t (zc4_i) := ⟨(fun t f h => by cases h), (nd0_ok (lf0_ok (inl_ok h zm_from Tryz.func81 ⟨by rfl, by rfl⟩ (by kernel_rfl))) (lf0_ok (inl_ok h zr_from Tryz.func97 ⟨by rfl, by rfl⟩ (by kernel_rfl))))⟩
theorem zc4_x {E : Env} (h : E.ok) : CxEOk Tryz.prog E (CxE.no) := CxE.no_ok _ _
theorem zc4_cx (E : Env) (h : E.ok) (h1 : E.lo = 0) (h2 : E.hi = 1000000000000000) : Cx.ok zc4 Tryz.prog E := ⟨tt_ok, qt_ok, bt_ok, zc4_si h, h, h1, h2, mixed_ok, zc4_x h⟩
def zc5_t : SpecT := fun _ => none
def zc5_i : SpecT := nd0 98 (lf0 81 (inlSpec zm Tryz.f81)) (lf0 98 (inlSpec zr Tryz.f98))
def zc5 : Cx := ⟨tt, qt, bt, st, zc5_t, 0, 1000000000000000, zc5_i, true, CxE.no, []⟩
theorem zc5_si {E : Env} (h : E.ok) : SpecsOk Tryz.prog E (CxE.no) zc5_t (zc5_i) := ⟨(fun t f h => by cases h), (nd0_ok (lf0_ok (inl_ok h zm_from Tryz.func81 ⟨by rfl, by rfl⟩ (by kernel_rfl))) (lf0_ok (inl_ok h zr_from Tryz.func98 ⟨by rfl, by rfl⟩ (by kernel_rfl))))⟩
theorem zc5_x {E : Env} (h : E.ok) : CxEOk Tryz.prog E (CxE.no) := CxE.no_ok _ _
theorem zc5_cx (E : Env) (h : E.ok) (h1 : E.lo = 0) (h2 : E.hi = 1000000000000000) : Cx.ok zc5 Tryz.prog E := ⟨tt_ok, qt_ok, bt_ok, zc5_si h, h, h1, h2, mixed_ok, zc5_x h⟩
def zc6_t : SpecT := fun _ => none
def zc6_i : SpecT := nd0 99 (lf0 81 (inlSpec zm Tryz.f81)) (lf0 99 (inlSpec zr Tryz.f99))
def zc6 : Cx := ⟨tt, qt, bt, st, zc6_t, 0, 1000000000000000, zc6_i, true, CxE.no, []⟩
theorem zc6_si {E : Env} (h : E.ok) : SpecsOk Tryz.prog E (CxE.no) zc6_t (zc6_i) := ⟨(fun t f h => by cases h), (nd0_ok (lf0_ok (inl_ok h zm_from Tryz.func81 ⟨by rfl, by rfl⟩ (by kernel_rfl))) (lf0_ok (inl_ok h zr_from Tryz.func99 ⟨by rfl, by rfl⟩ (by kernel_rfl))))⟩
theorem zc6_x {E : Env} (h : E.ok) : CxEOk Tryz.prog E (CxE.no) := CxE.no_ok _ _
theorem zc6_cx (E : Env) (h : E.ok) (h1 : E.lo = 0) (h2 : E.hi = 1000000000000000) : Cx.ok zc6 Tryz.prog E := ⟨tt_ok, qt_ok, bt_ok, zc6_si h, h, h1, h2, mixed_ok, zc6_x h⟩
def zc7_t : SpecT := fun _ => none
def zc7_i : SpecT := nd0 100 (lf0 81 (inlSpec zm Tryz.f81)) (lf0 100 (inlSpec zr Tryz.f100))
def zc7 : Cx := ⟨tt, qt, bt, st, zc7_t, 0, 1000000000000000, zc7_i, true, CxE.no, []⟩
theorem zc7_si {E : Env} (h : E.ok) : SpecsOk Tryz.prog E (CxE.no) zc7_t (zc7_i) := ⟨(fun t f h => by cases h), (nd0_ok (lf0_ok (inl_ok h zm_from Tryz.func81 ⟨by rfl, by rfl⟩ (by kernel_rfl))) (lf0_ok (inl_ok h zr_from Tryz.func100 ⟨by rfl, by rfl⟩ (by kernel_rfl))))⟩
theorem zc7_x {E : Env} (h : E.ok) : CxEOk Tryz.prog E (CxE.no) := CxE.no_ok _ _
theorem zc7_cx (E : Env) (h : E.ok) (h1 : E.lo = 0) (h2 : E.hi = 1000000000000000) : Cx.ok zc7 Tryz.prog E := ⟨tt_ok, qt_ok, bt_ok, zc7_si h, h, h1, h2, mixed_ok, zc7_x h⟩
def zc8_t : SpecT := fun _ => none
def zc8_i : SpecT := nd0 101 (lf0 81 (inlSpec zm Tryz.f81)) (lf0 101 (inlSpec zr Tryz.f101))
def zc8 : Cx := ⟨tt, qt, bt, st, zc8_t, 0, 1000000000000000, zc8_i, true, CxE.no, []⟩
theorem zc8_si {E : Env} (h : E.ok) : SpecsOk Tryz.prog E (CxE.no) zc8_t (zc8_i) := ⟨(fun t f h => by cases h), (nd0_ok (lf0_ok (inl_ok h zm_from Tryz.func81 ⟨by rfl, by rfl⟩ (by kernel_rfl))) (lf0_ok (inl_ok h zr_from Tryz.func101 ⟨by rfl, by rfl⟩ (by kernel_rfl))))⟩
theorem zc8_x {E : Env} (h : E.ok) : CxEOk Tryz.prog E (CxE.no) := CxE.no_ok _ _
theorem zc8_cx (E : Env) (h : E.ok) (h1 : E.lo = 0) (h2 : E.hi = 1000000000000000) : Cx.ok zc8 Tryz.prog E := ⟨tt_ok, qt_ok, bt_ok, zc8_si h, h, h1, h2, mixed_ok, zc8_x h⟩
def zc9_t : SpecT := fun _ => none
def zc9_i : SpecT := nd0 102 (lf0 81 (inlSpec zm Tryz.f81)) (lf0 102 (inlSpec zr Tryz.f102))
def zc9 : Cx := ⟨tt, qt, bt, st, zc9_t, 0, 1000000000000000, zc9_i, true, CxE.no, []⟩
theorem zc9_si {E : Env} (h : E.ok) : SpecsOk Tryz.prog E (CxE.no) zc9_t (zc9_i) := ⟨(fun t f h => by cases h), (nd0_ok (lf0_ok (inl_ok h zm_from Tryz.func81 ⟨by rfl, by rfl⟩ (by kernel_rfl))) (lf0_ok (inl_ok h zr_from Tryz.func102 ⟨by rfl, by rfl⟩ (by kernel_rfl))))⟩
theorem zc9_x {E : Env} (h : E.ok) : CxEOk Tryz.prog E (CxE.no) := CxE.no_ok _ _
theorem zc9_cx (E : Env) (h : E.ok) (h1 : E.lo = 0) (h2 : E.hi = 1000000000000000) : Cx.ok zc9 Tryz.prog E := ⟨tt_ok, qt_ok, bt_ok, zc9_si h, h, h1, h2, mixed_ok, zc9_x h⟩
theorem par_a {E : Env} (hE : E.ok) : SpecOk Tryz.prog E 62 (parS fun k => k = 33) ∧ SpecOk Tryz.prog E 62 (parS fun k => k = 44 ∨ k = 45) ∧ SpecOk Tryz.prog E 62 (parS fun k => k = 34) ∧ SpecOk Tryz.prog E 62 (parS fun k => k = 35 ∨ k = 36) ∧ SpecOk Tryz.prog E 62 (parS fun k => k = 39) ∧ SpecOk Tryz.prog E 62 (parS fun k => k = 40) ∧ SpecOk Tryz.prog E 62 (parS fun k => k = 41) ∧ SpecOk Tryz.prog E 62 (parS fun k => (¬ k = 33 ∧ ¬ k = 34 ∧ ¬ k = 35 ∧ ¬ k = 36 ∧ ¬ k = 39) ∧ ¬ k = 40 ∧ ¬ k = 41 ∧ ¬ k = 42 ∧ ¬ k = 44 ∧ ¬ k = 45) := by
 refine ⟨spec_of_vcT (C := zc1) par_fn Tryz.func62 (by kernel_rfl) zc1_cx (fun x hl hx => ?_) hE, spec_of_vcT (C := zc2) par_fn Tryz.func62 (by kernel_rfl) zc2_cx (fun x hl hx => ?_) hE, spec_of_vcT (C := zc3) par_fn Tryz.func62 (by kernel_rfl) zc3_cx (fun x hl hx => ?_) hE, spec_of_vcT (C := zc4) par_fn Tryz.func62 (by kernel_rfl) zc4_cx (fun x hl hx => ?_) hE, spec_of_vcT (C := zc5) par_fn Tryz.func62 (by kernel_rfl) zc5_cx (fun x hl hx => ?_) hE, spec_of_vcT (C := zc6) par_fn Tryz.func62 (by kernel_rfl) zc6_cx (fun x hl hx => ?_) hE, spec_of_vcT (C := zc7) par_fn Tryz.func62 (by kernel_rfl) zc7_cx (fun x hl hx => ?_) hE, spec_of_vcT (C := zc9) par_fn Tryz.func62 (by kernel_rfl) zc9_cx (fun x hl hx => ?_) hE⟩
 all_goals
  obtain ⟨⟨k, c, b, ⟨⟩⟩, ⟨⟩⟩ := x
  have hk := hx.1
  have hlen : b.length ≤ 1073741824 := hx.2
  dsimp only at hk
  cbv
  (repeat' (first|((with_reducible apply And.intro <;> intro h) <;> (first|(with_reducible first|exact (tf h ‹_›).elim|exact (tf ‹_› h).elim)|cbv))|((with_reducible first|apply Cb.mk|apply Lz.mk|apply JoinT.left|(apply AllT.mk;intro x hx));cbv)|((with_reducible refine Ob.mk (fun _ => ?_) ?_);rotate_left 1)|(with_reducible first|refine Mg.mk (Exists.intro ?_ (And.intro ?_ ?_))|rfl|apply Fin.mk|exact True.intro|apply And.intro)))
  all_goals first|(with_reducible first|show (∃ _, unr _ _ _ _ _ _)|show UnrI _ _ _ _ _|show Goes _ _ _ _|show JoinT _ _ _ _ _ _ _)|((try ((try dsimp only [Shp.D, Shp.Ds, Shp.dflt] at *); simp only [vla, vem, veq, vln] at *; (try dsimp only [Shp.D, Shp.Ds, Shp.dflt, Shp.dflts] at *); first | done | omega | (first | exact ge_c 1 | exact ge_c 2 | exact ge_c 0 | exact .inl trivial | exact .inr trivial | exact fix_of (by assumption) (by assumption) | exact ge_of hx (ckn_ge _) | exact ge_of hx (cki_ge _ _) | exact ge_of hx (cka_ge _ _) | exact ge_of hx (cke_ge _) | exact ge_of hx (cno_ge _ _) | exact ge_of2 hx (parP_ge _) | exact ge_of2 hx (parseF_ge _)) | (have k := not_a (fix_of (by assumption) (by assumption)) h; first | exact ⟨k.1, k.2, Int.le_refl _, trivial⟩ | exact ⟨by decide, k.1, k.2, Int.le_refl _, k.2⟩) | skip)))
end
end Go.Proofs.YtkifmppmfkpfbaaGreat.V
