import Derived.Test.YtkifmppmfkpfbaaGreatW31
import Derived.Test.YtkifmppmfkpfbaaGreatW29
import Derived.Test.YtkifmppmfkpfbaaGreatW25
import Derived.Test.YtkifmppmfkpfbaaGreatW27
set_option linter.unusedVariables false
set_option linter.unusedSimpArgs false
namespace Go.Proofs.YtkifmppmfkpfbaaGreat.V
open Go.RowKit
section
set_option maxHeartbeats 80000000
set_option maxRecDepth 100000
abbrev sbE : Shp := .sl .byte
theorem unr_nil {C : Cx} {body : Code} {K : Exit → St → Prop} {s : St} {lo hi : Nat} (N : List (Nat × Nat × TypeId × Shp)) (e1 : C.lo = lo) (e2 : C.hi = hi) (hN : nilOk C.shp C.lo C.hi N s = true) (h : UnrI lo hi (fun s K => vc C body s K) K (nilSt C.shp N s)) : UnrI lo hi (fun s K => vc C body s K) K s := by
 subst e1 e2
 obtain ⟨I, hg, hs⟩ := h.h
 refine ⟨I, ⟨fun E ρ a w e1 e2 hf => ?_⟩, hs⟩
 obtain ⟨ρ1, hf1⟩ := nil_fit e1 e2 N s ρ hN hf
 exact hg.go E ρ1 a w e1 e2 hf1
theorem unr_nilE {C : Cx} {body : Code} {K : Exit → St → Prop} {s : St} (N : List (Nat × Nat × TypeId × Shp)) (hN : nilOk C.shp C.lo C.hi N s = true) (h : UnrI C.lo C.hi (fun s K => vc C body s K) K (nilSt C.shp N s)) : ∃ k, unr C.lo C.hi (fun s K => vc C body s K) K k s := ⟨0, unr_nil N rfl rfl hN h⟩
theorem rem_c {f : Int × Int × Int × Int × Unit} {i : Int} (F : FixR f) (h : i < nubF f 2) : i < 65535 := by
 rw [nubF_2] at h
 have := F.h
 omega
theorem rem_b {f : Int × Int × Int × Int × Unit} {i L : Int} (F : FixR f) (hL : L = (((f.2.1 + 9223372036854775808) % 18446744073709551616 - 9223372036854775808) * nubF f 2 + 9223372036854775808) % 18446744073709551616 - 9223372036854775808) (h0 : 0 ≤ i) (h : i < nubF f 2) :
    0 ≤ (((f.2.1 + 9223372036854775808) % 18446744073709551616 - 9223372036854775808) * i + 9223372036854775808) % 18446744073709551616 - 9223372036854775808 ∧ (((f.2.1 + 9223372036854775808) % 18446744073709551616 - 9223372036854775808) * i + 9223372036854775808) % 18446744073709551616 - 9223372036854775808 ≤ ((((f.2.1 + 9223372036854775808) % 18446744073709551616 - 9223372036854775808) * i + 9223372036854775808) % 18446744073709551616 - 9223372036854775808 + ((f.2.1 + 9223372036854775808) % 18446744073709551616 - 9223372036854775808) + 9223372036854775808) % 18446744073709551616 - 9223372036854775808 ∧ ((((f.2.1 + 9223372036854775808) % 18446744073709551616 - 9223372036854775808) * i + 9223372036854775808) % 18446744073709551616 - 9223372036854775808 + ((f.2.1 + 9223372036854775808) % 18446744073709551616 - 9223372036854775808) + 9223372036854775808) % 18446744073709551616 - 9223372036854775808 ≤ L := by
 have h2 := F.h
 have h1 : nubF f 2 ≤ 65535 := by rw [nubF_2]; omega
 generalize nubF f 2 = c at *
 rw [show (f.2.1 + 9223372036854775808) % 18446744073709551616 - 9223372036854775808 = f.2.1 by omega] at *
 have a1 := Int.mul_nonneg h2.2.1.1 h0
 have a2 := Int.mul_le_mul_of_nonneg_left (show i + 1 ≤ c by omega) h2.2.1.1
 have a3 := Int.mul_le_mul_of_nonneg_left (show c ≤ 65535 by omega) h2.2.1.1
 rw [Int.mul_add, Int.mul_one] at a2
 generalize f.2.1 * i = p at *
 generalize f.2.1 * c = q at *
 omega
theorem par_8 {E : Env} (hE : E.ok) : SpecOk Tryz.prog E 62 (parS fun k => k = 42) := by
 refine spec_of_vcT (C := zc8) par_fn Tryz.func62 (by kernel_rfl) zc8_cx (fun x hl hx => ?_) hE
 obtain ⟨⟨k, c, b, ⟨⟩⟩, ⟨⟩⟩ := x
 have hk : k = 42 := hx.1
 have hlen : b.length ≤ 1073741824 := hx.2
 cbv
 (repeat' (first|((with_reducible apply And.intro <;> intro h) <;> (first|(with_reducible first|exact (tf h ‹_›).elim|exact (tf ‹_› h).elim)|cbv)) | ((with_reducible show JoinT (fun s K => vc _ (Code.region _ _ true) s K) _ _ _ _ _ _); (with_reducible apply JoinT.mg2); (focus (cbv; (repeat' (first|((with_reducible apply And.intro <;> intro h) <;> (first|(with_reducible first|exact (tf h ‹_›).elim|exact (tf ‹_› h).elim)|cbv))|((with_reducible first|apply Cb.mk|apply Lz.mk|apply JoinT.left|(apply AllT.mk;intro x hx));cbv)|((with_reducible refine Ob.mk (fun _ => ?_) ?_);rotate_left 1)|(with_reducible first|refine Mg.mk (Exists.intro ?_ (And.intro ?_ ?_))|rfl|apply Fin.mk|exact True.intro|apply And.intro))); (all_goals (try (have du : Unit := (); have dv : Unit := (); first | exact Goes.self (Ex2.mk ⟨dv, du, trivial, trivial, rfl⟩) | exact Goes.self (Ex2.mk ⟨x, du, hx, trivial, rfl⟩) | (rename_i xa hxa; exact Goes.self (Ex2.mk ⟨xa, x, hxa, hx, rfl⟩))))); (all_goals (fail_if_success (with_reducible first | show Goes _ _ _ _ | show (∃ _, unr _ _ _ _ _ _)))))))|((with_reducible first|apply Cb.mk|apply Lz.mk|apply JoinT.left|(apply AllT.mk;intro x hx));cbv)|((with_reducible refine Ob.mk (fun _ => ?_) ?_);rotate_left 1)|(with_reducible first|refine Mg.mk (Exists.intro ?_ (And.intro ?_ ?_))|rfl|apply Fin.mk|exact True.intro|apply And.intro)))
 all_goals first|(with_reducible first|show (∃ _, unr _ _ _ _ _ _)|show UnrI _ _ _ _ _|show Goes _ _ _ _|show JoinT _ _ _ _ _ _ _)|((try ((try dsimp only [Shp.D, Shp.Ds, Shp.dflt] at *); simp only [vla, vem, veq, vln] at *; (try dsimp only [Shp.D, Shp.Ds, Shp.dflt, Shp.dflts] at *); first | done | omega | (first | exact ge_c 1 | exact ge_c 2 | exact .inl trivial | exact .inr trivial | exact fix_of (by assumption) (by assumption) | exact ge_of hx (cde_ge _ _ _)) | skip)))
 all_goals
  with_reducible refine unr_nilE [(92673, 900002, 132, prE)] (by cbv) ?_; cbv
  with_reducible refine unr_nil [(92675, 900003, 5, .byte)] rfl rfl (by cbv) ?_; cbv
  with_reducible refine unr_nil [(92677, 900004, 5, .byte)] rfl rfl (by cbv) ?_; cbv
  with_reducible refine unr_nil [(92679, 900005, 5, .byte)] rfl rfl (by cbv) ?_; cbv
  with_reducible refine unr_nil [(92681, 900006, 5, .byte)] rfl rfl (by cbv) ?_; cbv
  with_reducible refine unr_nil [(92683, 900007, 5, .byte)] rfl rfl (by cbv) ?_; cbv
  with_reducible refine unr_nil [(92686, 900008, 139, selE)] rfl rfl (by cbv) ?_; cbv
  with_reducible refine unr_nil [(92687, 900009, 5, .byte)] rfl rfl (by cbv) ?_; cbv
  with_reducible refine loop_hvZ [(92685, 900001, 22, .sl .byte)] (12 :: rangeN 51 36) [1384] [900001] (fun z b t y => 0 ≤ z 49 ∧ z 49 ≤ 65535 ∧ ((y 900001 (.sl .byte)).length : Int) ≤ z 49) (fun z b t y => (65536 - z 49).toNat) (by rfl) (by rfl) (by cbv) (by cbv) ?_ ?_ (fun z1 b1 t1 u1 y1 R1 hP1 hR1 => ?_)
  ·exact EndOk.au
  ·intro zq bq tq yq hUq
   have q49 := hUq.z 49
   have qy900001 := hUq.y 900001 (sbE)
   cbv at q49 qy900001
   replace q49 := q49.eq
   replace qy900001 := qy900001.eq
   simp only [atI, atB, atT, atY, convL_self, vem, veq, ne_eq, cmpI, arI, dvI, shI, SV.den] at q49 qy900001
   clear hUq
   try dsimp only [Shp.D, Shp.Ds, Shp.dflt] at *
   try simp only [vla, vem, veq] at *
   rw [← q49, ← qy900001]
   exact ⟨by omega, by omega, by simp⟩
  obtain ⟨p1, p2, p3⟩ := hP1
  cbv
  (repeat' (first|((with_reducible apply And.intro <;> intro h) <;> (first|(with_reducible first|exact (tf h ‹_›).elim|exact (tf ‹_› h).elim)|cbv)) | ((with_reducible show JoinT (fun s K => vc _ (Code.region _ _ true) s K) _ _ _ _ _ _); (with_reducible apply JoinT.mg2); (focus (cbv; (repeat' (first|((with_reducible apply And.intro <;> intro h) <;> (first|(with_reducible first|exact (tf h ‹_›).elim|exact (tf ‹_› h).elim)|cbv))|((with_reducible first|apply Cb.mk|apply Lz.mk|apply JoinT.left|(apply AllT.mk;intro x hx));cbv)|((with_reducible refine Ob.mk (fun _ => ?_) ?_);rotate_left 1)|(with_reducible first|refine Mg.mk (Exists.intro ?_ (And.intro ?_ ?_))|rfl|apply Fin.mk|exact True.intro|apply And.intro))); (all_goals (try (have du : Unit := (); have dv : Unit := (); first | exact Goes.self (Ex2.mk ⟨dv, du, trivial, trivial, rfl⟩) | exact Goes.self (Ex2.mk ⟨x, du, hx, trivial, rfl⟩) | (rename_i xa hxa; exact Goes.self (Ex2.mk ⟨xa, x, hxa, hx, rfl⟩))))); (all_goals (fail_if_success (with_reducible first | show Goes _ _ _ _ | show (∃ _, unr _ _ _ _ _ _)))))))|((with_reducible first|apply Cb.mk|apply Lz.mk|apply JoinT.left|(apply AllT.mk;intro x hx));cbv)|((with_reducible refine Ob.mk (fun _ => ?_) ?_);rotate_left 1)|(with_reducible first|refine Mg.mk (Exists.intro ?_ (And.intro ?_ ?_))|rfl|apply Fin.mk|exact True.intro|apply And.intro)))
  all_goals first|(with_reducible first|show (∃ _, unr _ _ _ _ _ _)|show UnrI _ _ _ _ _|show Goes _ _ _ _|show JoinT _ _ _ _ _ _ _)|((try ((try dsimp only [Shp.D, Shp.Ds, Shp.dflt] at *); simp only [vla, vem, veq, vln] at *; (try dsimp only [Shp.D, Shp.Ds, Shp.dflt, Shp.dflts] at *); first | done | omega | (exact ge_of hx (chs_ge _ _)) | (exact ge_c 0) | (have k := rem_b (fix_of (by assumption) (by assumption)) (by assumption) p1 h; exact ⟨k.1, k.2.1, k.2.2, Int.le_refl _, k.2.2⟩) | skip)))
  all_goals (try (with_reducible show Goes _ _ _ _; (((with_reducible refine hR1 _ ?_ (fun zq bq tq yq hUq => ?_)); (focus (exact EndOk.au)); (have q49 := hUq.z 49); (have qy900001 := hUq.y 900001 (sbE)); (cbv at q49 qy900001); (replace q49 := q49.eq); (replace qy900001 := qy900001.eq); (simp only [atI, atB, atT, atY, convL_self, vem, veq, ne_eq, cmpI, arI, dvI, shI, SV.den] at q49 qy900001); (clear hUq hR1); (try dsimp only [Shp.D, Shp.Ds, Shp.dflt] at *); (try simp only [vem, veq, ne_eq, cmpI, arI, dvI, shI, SV.den, elemAt, convL_self] at *); (try dsimp only [Shp.D, Shp.Ds, Shp.dflt, Shp.dflts] at *))); (try ((try dsimp only [Shp.D, Shp.Ds, Shp.dflt] at *); simp only [vla, vem, veq, vln] at *; (try dsimp only [Shp.D, Shp.Ds, Shp.dflt, Shp.dflts] at *))); have k := rem_c (fix_of (by assumption) (by assumption)) h; refine ⟨⟨by omega, by omega, ?_⟩, by omega⟩; rw [← qy900001, List.length_append, List.length_cons, List.length_nil]; omega))
end
section
structure AnyK (k : Int) : Prop where
 h : True
theorem par_any {E : Env} (hE : E.ok) : SpecOk Tryz.prog E 62 (parS AnyK) := by
 obtain ⟨p1, p2, p3, p4, p5, p6, p7, p9⟩ := par_a hE
 refine spec_cases par_fn fun x hx => ?_
 by_cases h1 : x.1.1 = 33
 ·exact ⟨_, ⟨h1, hx.2⟩, p1⟩
 by_cases h2 : x.1.1 = 44 ∨ x.1.1 = 45
 ·exact ⟨_, ⟨h2, hx.2⟩, p2⟩
 by_cases h3 : x.1.1 = 34
 ·exact ⟨_, ⟨h3, hx.2⟩, p3⟩
 by_cases h4 : x.1.1 = 35 ∨ x.1.1 = 36
 ·exact ⟨_, ⟨h4, hx.2⟩, p4⟩
 by_cases h5 : x.1.1 = 39
 ·exact ⟨_, ⟨h5, hx.2⟩, p5⟩
 by_cases h6 : x.1.1 = 40
 ·exact ⟨_, ⟨h6, hx.2⟩, p6⟩
 by_cases h7 : x.1.1 = 41
 ·exact ⟨_, ⟨h7, hx.2⟩, p7⟩
 by_cases h8 : x.1.1 = 42
 ·exact ⟨_, ⟨h8, hx.2⟩, par_8 hE⟩
 exact ⟨_, ⟨⟨⟨h1, h3, fun e => h4 (.inl e), fun e => h4 (.inr e), h5⟩, h6, h7, h8, fun e => h2 (.inl e), fun e => h2 (.inr e)⟩, hx.2⟩, p9⟩
end
section
set_option maxHeartbeats 8000000
set_option maxRecDepth 100000
theorem stp_len (k : Int) (b : List UInt8) : (Ch.stpF k b).1.2.2.1.length ≤ b.length ∧ (Ch.stpF k b).2.2.1.length ≤ b.length := by
 unfold Ch.stpF
 split
 ·exact ⟨by simp, by simp⟩
 split
 ·exact ⟨by simp, by simp⟩
 ·exact ⟨by simp only [List.length_drop, List.length_take]; omega, by simp only [List.length_drop]; omega⟩
theorem parL_body : ∀ (n : Nat) (k : Int) (b : List UInt8), ∀ r ∈ (Ch.parL n k b).1, r.2.2.1.length ≤ b.length
 | 0, k, b, r, hr => by
   rw [Ch.parL] at hr
   (repeat' split at hr) <;> cases hr
 | n + 1, k, b, r, hr => by
   have h1 := stp_len k b
   rw [Ch.parL] at hr
   split at hr
   ·split at hr <;> cases hr
   split at hr
   ·cases hr
   split at hr
   ·split at hr
    ·rw [List.mem_singleton] at hr
     rw [hr]
     exact h1.1
    ·cases hr
   split at hr
   ·cases hr
   ·rcases List.mem_cons.1 hr with e | e
    ·rw [e]
     exact h1.1
    ·exact Nat.le_trans (parL_body n _ _ r e) h1.2
structure RawB (l : List (Int × Bool × List UInt8 × Unit)) : Prop where
 few : l.length ≤ 41
 le : ∀ r ∈ l, r.2.2.1.length ≤ 8192
theorem parF_raw {k : Int} {b : List UInt8} (hb : b.length ≤ 8192) : RawB (Ch.parF k b).1 := by
 refine ⟨(parF_ge k b).2, fun r hr => ?_⟩
 unfold Ch.parF at hr
 split at hr
 ·cases hr
 ·exact Nat.le_trans (parL_body 40 k b r hr) hb
theorem raw_at {l : List (Int × Bool × List UInt8 × Unit)} (h : RawB l) {i : Nat} (hi : i < l.length) (d : Int × Bool × List UInt8 × Unit) : (l.getD i d).2.2.1.length ≤ 8192 := by
 rw [List.getD_eq_getElem?_getD, List.getElem?_eq_getElem hi]
 exact h.le _ (List.getElem_mem hi)
theorem hd_28 {b : List UInt8} (h : (Hd.parseF b).2 = 0) : 28 ≤ b.length := by
 unfold Hd.parseF at h
 split at h
 ·exact absurd h (by decide)
 ·omega
theorem hd_e {h : Hd.HdT} {e : Int} {b : List UInt8} {P : Prop} (hx : (h, e) = Hd.parseF b ∧ P) (h0 : e = 0) : 28 ≤ b.length := hd_28 (by rw [← hx.1]; exact h0)
theorem ge_of3 {α β : Type} {l : α} {a : β} {e : Int} {c : α × β × Int} {P : Prop} (h : (l, a, e) = c ∧ P) (g : GE c.2.2) : GE e := by
 rw [← h.1] at g
 exact g
theorem raw_of {l : List (Int × Bool × List UInt8 × Unit)} {a e k : Int} {b : List UInt8} {P : Prop} (hx : (l, a, e) = Ch.parF k b ∧ P) (hb : b.length ≤ 8192) : RawB l := by
 have := parF_raw (k := k) hb
 rw [← hx.1] at this
 exact this
abbrev knoSp : Spec := fnSpec [.int .i64] [.bool] [] (fun _ => True) fun _ _ => True
theorem kno_fn : hasFn Tryz.prog 61 := ⟨_, Tryz.func61, by rfl, by rfl⟩
theorem kno_sp {E : Env} (hE : E.ok) : SpecOk Tryz.prog E 61 knoSp := by
 refine spec_of_vc (C := noC) kno_fn Tryz.func61 (by kernel_rfl) noC_cx (fun x hl hx => ?_) hE
 obtain ⟨k, ⟨⟩⟩ := x
 cbv
 (repeat' (first|((with_reducible apply And.intro <;> intro h) <;> (first|(with_reducible first|exact (tf h ‹_›).elim|exact (tf ‹_› h).elim)|cbv))|((with_reducible first|apply Cb.mk|apply Lz.mk|apply JoinT.left|(apply AllT.mk;intro x hx));cbv)|((with_reducible refine Ob.mk (fun _ => ?_) ?_);rotate_left 1)|(with_reducible first|refine Mg.mk (Exists.intro ?_ (And.intro ?_ ?_))|rfl|apply Fin.mk|exact True.intro|apply And.intro)))
 all_goals first|(with_reducible first|show (∃ _, unr _ _ _ _ _ _)|show UnrI _ _ _ _ _|show Goes _ _ _ _|show JoinT _ _ _ _ _ _ _)|((try ((try dsimp only [Shp.D, Shp.Ds, Shp.dflt] at *); simp only [vla, vem, veq, vln] at *; (try dsimp only [Shp.D, Shp.Ds, Shp.dflt, Shp.dflts] at *); first | done | omega | skip)))
abbrev paySp : Spec := fnSpec [hdE, .sl rawE] [msgE, .int .i64] [49] (fun (x : Shp.Ds [hdE, .sl rawE]) => RawB x.2.1) fun _ (y : Shp.Ds [msgE, .int .i64]) => GE y.2.1
def payC_t : SpecT := nd0 61 (lf0 20 (ckmSp)) (nd0 62 (lf0 61 (knoSp)) (lf0 62 (parS AnyK)))
def payC : Cx := ⟨tt, qt, bt, st, payC_t, 0, 1000000000000000, fun _ => none, false, CxE.no, []⟩
theorem payC_si {E : Env} (h : E.ok) : SpecsOk Tryz.prog E (CxE.no) payC_t (fun _ => none) := ⟨(nd0_ok (lf0_ok (.inl (ckm_sp h))) (nd0_ok (lf0_ok (.inl (kno_sp h))) (lf0_ok (.inl (par_any h))))), noI_ok _ _ _⟩
theorem payC_x {E : Env} (h : E.ok) : CxEOk Tryz.prog E (CxE.no) := CxE.no_ok _ _
theorem payC_cx (E : Env) (h : E.ok) (h1 : E.lo = 0) (h2 : E.hi = 1000000000000000) : Cx.ok payC Tryz.prog E := ⟨tt_ok, qt_ok, bt_ok, payC_si h, h, h1, h2, mixed_ok, payC_x h⟩
theorem pay_fn : hasFn Tryz.prog 32 := ⟨_, Tryz.func32, by rfl, by rfl⟩
theorem pay_sp {E : Env} (hE : E.ok) : SpecOk Tryz.prog E 32 paySp := by
 refine spec_of_vc (C := payC) pay_fn Tryz.func32 (by kernel_rfl) payC_cx (fun x hl hx => ?_) hE
 obtain ⟨⟨i1, r1, n1, x1, f1, d1, ⟨⟩⟩, l, ⟨⟩⟩ := x
 have hr : RawB l := hx
 have hlen : l.length ≤ 41 := hr.few
 clear hl
 cbv
 (repeat' (first|((with_reducible apply And.intro <;> intro h) <;> (first|(with_reducible first|exact (tf h ‹_›).elim|exact (tf ‹_› h).elim)|cbv))|((with_reducible first|apply Cb.mk|apply Lz.mk|apply JoinT.left|(apply AllT.mk;intro x hx));cbv)|((with_reducible refine Ob.mk (fun _ => ?_) ?_);rotate_left 1)|(with_reducible first|refine Mg.mk (Exists.intro ?_ (And.intro ?_ ?_))|rfl|apply Fin.mk|exact True.intro|apply And.intro)))
 all_goals first|(with_reducible first|show (∃ _, unr _ _ _ _ _ _)|show UnrI _ _ _ _ _|show Goes _ _ _ _|show JoinT _ _ _ _ _ _ _)|((try ((try dsimp only [Shp.D, Shp.Ds, Shp.dflt] at *); simp only [vla, vem, veq, vln] at *; (try dsimp only [Shp.D, Shp.Ds, Shp.dflt, Shp.dflts] at *); first | done | omega | skip)))
 with_reducible refine loop_hv [(88582, 900001, 49, plE)] (8 :: 9 :: 10 :: 11 :: rangeN 17 33) [1320] [900001] (fun z b t y => 0 ≤ z 16 ∧ z 16 ≤ (l.length : Int) ∧ ((y 900001 plE).length : Int) ≤ z 16) (fun z b t y => ((l.length : Int) - z 16).toNat) (by cbv) (by cbv) ?_ ?_ (fun z1 b1 t1 u1 y1 R1 hP1 hR1 => ?_)
 ·exact EndOk.au
 ·intro zq bq tq yq hUq
  have q16 := hUq.z 16
  have qy900001 := hUq.y 900001 (plE)
  cbv at q16 qy900001
  replace q16 := q16.eq
  replace qy900001 := qy900001.eq
  simp only [atI, atB, atT, atY, convL_self, vem, veq, ne_eq, cmpI, arI, dvI, shI, SV.den] at q16 qy900001
  clear hUq
  try dsimp only [Shp.D, Shp.Ds, Shp.dflt] at *
  try simp only [vla, vem, veq] at *
  rw [← q16, ← qy900001]
  exact ⟨by omega, by omega, by simp⟩
 obtain ⟨p1, p2, p3⟩ := hP1
 cbv
 (repeat' (first|((with_reducible apply And.intro <;> intro h) <;> (first|(with_reducible first|exact (tf h ‹_›).elim|exact (tf ‹_› h).elim)|cbv))|((with_reducible first|apply Cb.mk|apply Lz.mk|apply JoinT.left|(apply AllT.mk;intro x hx));cbv)|((with_reducible refine Ob.mk (fun _ => ?_) ?_);rotate_left 1)|(with_reducible first|refine Mg.mk (Exists.intro ?_ (And.intro ?_ ?_))|rfl|apply Fin.mk|exact True.intro|apply And.intro)))
 all_goals first
  | (with_reducible show Goes _ _ _ _; skip)
  | (try ((try dsimp only [Shp.D, Shp.Ds, Shp.dflt] at *); simp only [vla, vem, veq, vln] at *; (try dsimp only [Shp.D, Shp.Ds, Shp.dflt, Shp.dflts] at *); first | done | omega | (exact AnyK.mk trivial) | (have := raw_at hr (i := (z1 16).toNat) (by omega) (0, false, [], ()); omega) | (exact ⟨by omega⟩) | (exact ge_c 6) | (exact ge_c 0) | (exact hx.1) | (exact ge_of hx (chkI_ge _ _ _ _ _)) | skip))
 all_goals
  (((with_reducible refine hR1 _ ?_ (fun zq bq tq yq hUq => ?_)); (focus (exact EndOk.au)); (have q16 := hUq.z 16); (have qy900001 := hUq.y 900001 (plE)); (cbv at q16 qy900001); (replace q16 := q16.eq); (replace qy900001 := qy900001.eq); (simp only [atI, atB, atT, atY, convL_self, vem, veq, ne_eq, cmpI, arI, dvI, shI, SV.den] at q16 qy900001); (clear hUq hR1); (try dsimp only [Shp.D, Shp.Ds, Shp.dflt] at *); (try simp only [vem, veq, ne_eq, cmpI, arI, dvI, shI, SV.den, elemAt, convL_self] at *); (try dsimp only [Shp.D, Shp.Ds, Shp.dflt, Shp.dflts] at *))); (try ((try dsimp only [Shp.D, Shp.Ds, Shp.dflt] at *); simp only [vla, vem, veq, vln] at *; (try dsimp only [Shp.D, Shp.Ds, Shp.dflt, Shp.dflts] at *)))
  first
   | exact ⟨⟨by omega, by omega, by rw [← qy900001, List.length_append, List.length_cons, List.length_nil]; omega⟩, by omega⟩
   | exact ⟨⟨by omega, by omega, by rw [← qy900001]; omega⟩, by omega⟩
abbrev mpaSp : Spec := fnSpec [.sl .byte] [msgE, .int .i64] [49] (fun _ => True) fun _ (y : Shp.Ds [msgE, .int .i64]) => GE y.2.1
def mpaC_t : SpecT := nd0 32 (lf0 28 (Ch.cpaSp)) (nd0 39 (lf0 32 (paySp)) (lf0 39 (Hd.hpaSp)))
def mpaC : Cx := ⟨tt, qt, bt, st, mpaC_t, 0, 1000000000000000, fun _ => none, false, CxE.no, []⟩
theorem mpaC_si {E : Env} (h : E.ok) : SpecsOk Tryz.prog E (CxE.no) mpaC_t (fun _ => none) := ⟨(nd0_ok (lf0_ok (.inl (Ch.cpa_sp h))) (nd0_ok (lf0_ok (.inl (pay_sp h))) (lf0_ok (.inl (Hd.hpa_sp h))))), noI_ok _ _ _⟩
theorem mpaC_x {E : Env} (h : E.ok) : CxEOk Tryz.prog E (CxE.no) := CxE.no_ok _ _
theorem mpaC_cx (E : Env) (h : E.ok) (h1 : E.lo = 0) (h2 : E.hi = 1000000000000000) : Cx.ok mpaC Tryz.prog E := ⟨tt_ok, qt_ok, bt_ok, mpaC_si h, h, h1, h2, mixed_ok, mpaC_x h⟩
theorem mpa_fn : hasFn Tryz.prog 19 := ⟨_, Tryz.func19, by rfl, by rfl⟩
theorem mpa_sp {E : Env} (hE : E.ok) : SpecOk Tryz.prog E 19 mpaSp := by
 refine spec_of_vc (C := mpaC) mpa_fn Tryz.func19 (by kernel_rfl) mpaC_cx (fun x hl hx => ?_) hE
 obtain ⟨b, ⟨⟩⟩ := x
 have hlen : (b.length : Int) ≤ 140737488355328 := by simp only [Shp.lims, Shp.lim] at hl; omega
 cbv
 (repeat' (first|((with_reducible apply And.intro <;> intro h) <;> (first|(with_reducible first|exact (tf h ‹_›).elim|exact (tf ‹_› h).elim)|cbv)) | ((with_reducible show JoinT (fun s K => vc _ (Code.region _ _ true) s K) _ _ _ _ _ _); (with_reducible apply JoinT.mg2); (focus (cbv; (repeat' (first|((with_reducible apply And.intro <;> intro h) <;> (first|(with_reducible first|exact (tf h ‹_›).elim|exact (tf ‹_› h).elim)|cbv))|((with_reducible first|apply Cb.mk|apply Lz.mk|apply JoinT.left|(apply AllT.mk;intro x hx));cbv)|((with_reducible refine Ob.mk (fun _ => ?_) ?_);rotate_left 1)|(with_reducible first|refine Mg.mk (Exists.intro ?_ (And.intro ?_ ?_))|rfl|apply Fin.mk|exact True.intro|apply And.intro))); (all_goals (try (have du : Unit := (); have dv : Unit := (); first | exact Goes.self (Ex2.mk ⟨dv, du, trivial, trivial, rfl⟩) | exact Goes.self (Ex2.mk ⟨x, du, hx, trivial, rfl⟩) | (rename_i xa hxa; exact Goes.self (Ex2.mk ⟨xa, x, hxa, hx, rfl⟩))))); (all_goals (fail_if_success (with_reducible first | show Goes _ _ _ _ | show (∃ _, unr _ _ _ _ _ _)))))))|((with_reducible first|apply Cb.mk|apply Lz.mk|apply JoinT.left|(apply AllT.mk;intro x hx));cbv)|((with_reducible refine Ob.mk (fun _ => ?_) ?_);rotate_left 1)|(with_reducible first|refine Mg.mk (Exists.intro ?_ (And.intro ?_ ?_))|rfl|apply Fin.mk|exact True.intro|apply And.intro)))
 all_goals first|(with_reducible first|show (∃ _, unr _ _ _ _ _ _)|show UnrI _ _ _ _ _|show Goes _ _ _ _|show JoinT _ _ _ _ _ _ _)|((try ((try dsimp only [Shp.D, Shp.Ds, Shp.dflt] at *); simp only [vla, vem, veq, vln] at *; (try dsimp only [Shp.D, Shp.Ds, Shp.dflt, Shp.dflts] at *); first | done | omega | (exact ge_c 11) | (exact hx.1) | (exact ge_of2 hx (hparse_ge _)) | (exact ge_of3 hx (parF_ge _ _).1) | (have k := hd_e (by assumption) h; exact ⟨by omega, by omega, by omega, trivial⟩) | (exact raw_of (by assumption) (by simp only [List.length_take, List.length_drop]; omega)) | (exact (‹GE _ ∧ _›).1) | skip)))
end
section
set_option maxHeartbeats 8000000
set_option maxRecDepth 100000
end
section
set_option maxHeartbeats 8000000
set_option maxRecDepth 100000
def relS (S : TypeId → Option Shp) (Sp : Spec) : Spec := fun lo hi id args s K =>
 match relitL S lo hi s.heap s.ents (id + 32) args with
 | ⟨args', H, G, _, ob⟩ => obsK ob (Sp lo hi id args' ⟨s.fr, s.n, H, G, s.next⟩ K)
theorem relS_ok {P : Program} {E : Env} {x : CxE} {f : FuncId} {S : TypeId → Option Shp} {Sp : Spec} (h : SpecOk P E f Sp) : SpecOkI P E x f (relS S Sp) := by
 refine ⟨h.fn, fun lo hi id args s K hlo hhi hs ρ w hh hargs => ?_⟩
 unfold relS at hs
 obtain ⟨ho, hs⟩ := obsK_spec hs
 obtain ⟨ρ1, k1, k2⟩ := relitL_sound (S := S) hlo hhi args (n := id + 32) hh ho
 have e1 : ∀ ρ'', Agr ρ1 ρ'' (relitL S lo hi s.heap s.ents (id + 32) args).H (relitL S lo hi s.heap s.ents (id + 32) args).G → SV.dens ρ'' (relitL S lo hi s.heap s.ents (id + 32) args).v = SV.dens ρ args := fun ρ'' hr => by
  rw [(k2 ρ'' hr).2]; exact hargs ρ'' (k2 ρ'' hr).1
 have e2 := e1 ρ1 (Agr.refl _ _ _)
 rw [← e2]
 refine (h.calls lo hi id _ ⟨s.fr, s.n, _, _, s.next⟩ K hlo hhi hs ρ1 w k1 fun ρ' hr => by rw [e2]; exact e1 ρ' hr).mono fun e w' hw => ?_
 obtain ⟨v, s', ρ', q1, q2, q3, q4, _⟩ := hw
 exact .inl ⟨v, s', ρ', q1, q2, q3, fun ρ'' hr => ⟨(k2 ρ'' (q4 ρ'' hr).1).1, (q4 ρ'' hr).2⟩⟩
theorem wriB {x : Int} (h : -9223372036854775808 ≤ x ∧ x < 9223372036854775808) : (x + 9223372036854775808) % 18446744073709551616 - 9223372036854775808 = x := by omega
theorem putF_len2 (v : Int) : (putF v 2).length = 2 := by rw [putF, if_pos (by omega), putB_length]; rfl
def trB (t : TrT) : List UInt8 := [toB (IntKind.u8.wrap t.1), toB 0] ++ putF (IntKind.u64.wrap t.2.1) 2 ++ (if t.2.2.1 = 0 then [] else putF 32782 2 ++ putF (IntKind.u64.wrap t.2.2.1) 2)
def partB (m : Int) (body : List UInt8) : List UInt8 := [toB m, toB 0] ++ putF (IntKind.u64.wrap ((body.length : Int) + 4)) 2 ++ body
def trsB : List TrT → List UInt8
 | [] => []
 | t :: l => partB (if l.length = 0 then 0 else 3) (trB t) ++ trsB l
def hdB (p : PrT) : List UInt8 := [toB (IntKind.u8.wrap p.1), toB (IntKind.u8.wrap p.2.1), toB (IntKind.u8.wrap p.2.2.1.length), toB (IntKind.u8.wrap p.2.2.2.1.length)] ++ p.2.2.1
def prB (p : PrT) : List UInt8 := hdB p ++ trsB p.2.2.2.1
def prsB : List PrT → List UInt8
 | [] => []
 | p :: l => partB (if l.length = 0 then 0 else 2) (prB p) ++ prsB l
def bldF (l : List PrT) : List UInt8 × Int := if chkF l = 0 then (prsB l, 0) else ([], chkF l)
theorem trB_len (t : TrT) : (trB t).length = if t.2.2.1 = 0 then 4 else 8 := by
 unfold trB
 split <;> simp [putF_len2]
theorem partB_len (m : Int) (b : List UInt8) : (partB m b).length = b.length + 4 := by
 unfold partB
 simp [putF_len2]
 omega
theorem trsB_drop (l : List TrT) (k : Nat) (h : k < l.length) : trsB (l.drop k) = partB (if k < l.length - 1 then 3 else 0) (trB (l.getD k trD0')) ++ trsB (l.drop (k + 1)) := by
 rw [List.drop_eq_getElem_cons h, trsB, List.length_drop, List.getD_eq_getElem?_getD, List.getElem?_eq_getElem h]
 by_cases hk : k < l.length - 1
 ·rw [if_pos hk, if_neg (by omega)]; rfl
 ·rw [if_neg hk, if_pos (by omega)]; rfl
theorem prsB_drop (l : List PrT) (k : Nat) (h : k < l.length) : prsB (l.drop k) = partB (if k < l.length - 1 then 2 else 0) (prB (l.getD k prD0)) ++ prsB (l.drop (k + 1)) := by
 rw [List.drop_eq_getElem_cons h, prsB, List.length_drop, List.getD_eq_getElem?_getD, List.getElem?_eq_getElem h]
 by_cases hk : k < l.length - 1
 ·rw [if_pos hk, if_neg (by omega)]; rfl
 ·rw [if_neg hk, if_pos (by omega)]; rfl
theorem one_0 {p : PrT} {n : Int} (h : oneF p n = 0) : p.1 = n ∧ 1 ≤ p.2.1 ∧ p.2.1 ≤ 3 ∧ ¬ spiBad p.2.1 p.2.2.1.length ∧ 1 ≤ p.2.2.2.1.length ∧ p.2.2.2.1.length ≤ 24 ∧ trsE [] p.2.2.2.1 = 0 := by
 unfold oneF at h
 split at h
 ·cases h
 ·split at h
  ·cases h
  ·split at h
   ·cases h
   ·split at h
    ·cases h
    ·split at h
     ·cases h
     ·refine ⟨by omega, by omega, by omega, by assumption, by omega, by omega, h⟩
theorem chkGo_0 : ∀ {l : List PrT} {n : Int}, chkGo l n = 0 → ∀ k (h : k < l.length), oneF (l.getD k prD0) (n + k) = 0
 | [], _, _, k, h => by simp at h
 | p :: l, n, hc, k, h => by
   unfold chkGo at hc
   split at hc
   ·rename_i h1
    cases k with
    | zero => simpa using h1
    | succ k =>
      have := chkGo_0 hc k (by simpa using h)
      rw [List.getD_cons_succ, show n + ((k + 1 : Nat) : Int) = n + 1 + k by omega]
      exact this
   ·rename_i h1; exact absurd hc h1
theorem chk_0 {l : List PrT} (h : chkF l = 0) : 1 ≤ l.length ∧ l.length ≤ 8 ∧ ∀ k, k < l.length → oneF (l.getD k prD0) (1 + k) = 0 := by
 unfold chkF at h
 split at h
 ·cases h
 ·split at h
  ·cases h
  ·exact ⟨by omega, by omega, fun k hk => chkGo_0 h k hk⟩
theorem spi_8 {p n : Int} (h : ¬ spiBad p n) : n ≤ 8 := by
 unfold spiBad at h
 omega
abbrev partAs : List Shp := [.sl .byte, .bool, .int .u8, .sl .byte]
abbrev partPre : Shp.Ds partAs → Prop := fun x => x.1.length ≤ 10000000 ∧ x.2.2.2.1.length ≤ 10000000 ∧ 0 ≤ x.2.2.1 ∧ x.2.2.1 < 256
abbrev partPost : Shp.Ds partAs → Shp.Ds [.sl .byte] → Prop := fun x y => y.1 = x.1 ++ partB (if x.2.1 = true then x.2.2.1 else 0) x.2.2.2.1
abbrev partSp : Spec := fnSpecT partAs [some 5, none, none, none] [.sl .byte] [.own 5] [] partPre partPost
abbrev wputS : Spec := fnSpecT putAs [some 5, none, none] [.sl .byte] [.own 5] [] putPre putPost
def ppaC_t : SpecT := lf0 66 (wputS)
def ppaC : Cx := ⟨tt, qt, bt, st, ppaC_t, 0, 1000000000000000, fun _ => none, false, CxE.no, []⟩
theorem ppaC_si {E : Env} (h : E.ok) : SpecsOk Tryz.prog E (CxE.no) ppaC_t (fun _ => none) := ⟨(lf0_ok (.inl (wput_sp h))), noI_ok _ _ _⟩
theorem ppaC_x {E : Env} (h : E.ok) : CxEOk Tryz.prog E (CxE.no) := CxE.no_ok _ _
theorem ppaC_cx (E : Env) (h : E.ok) (h1 : E.lo = 0) (h2 : E.hi = 1000000000000000) : Cx.ok ppaC Tryz.prog E := ⟨tt_ok, qt_ok, bt_ok, ppaC_si h, h, h1, h2, mixed_ok, ppaC_x h⟩
theorem ppa_fn : hasFn Tryz.prog 125 := ⟨_, Tryz.func125, by rfl, by rfl⟩
theorem ppa_sp {E : Env} (hE : E.ok) : SpecOk Tryz.prog E 125 partSp := by
 refine spec_of_vcT (C := ppaC) ppa_fn Tryz.func125 (by kernel_rfl) ppaC_cx (fun x hl hx => ?_) hE
 obtain ⟨b, more, m, body, ⟨⟩⟩ := x
 obtain ⟨h1, h2, h3, h4⟩ := hx
 dsimp only [Shp.D, Shp.Ds] at h1 h2 h3 h4
 cbv
 (repeat' (first|((with_reducible apply And.intro <;> intro h) <;> (first|(with_reducible first|exact (tf h ‹_›).elim|exact (tf ‹_› h).elim)|cbv))|((with_reducible first|apply Cb.mk|apply Lz.mk|apply JoinT.left|(apply AllT.mk;intro x hx));cbv)|((with_reducible refine Ob.mk (fun _ => ?_) ?_);rotate_left 1)|(with_reducible first|refine Mg.mk (Exists.intro ?_ (And.intro ?_ ?_))|rfl|apply Fin.mk|exact True.intro|apply And.intro)))
 all_goals first|(with_reducible first|show (∃ _, unr _ _ _ _ _ _)|show UnrI _ _ _ _ _|show Goes _ _ _ _|show JoinT _ _ _ _ _ _ _)|((try ((try dsimp only [Shp.D, Shp.Ds, Shp.dflt] at *); simp only [vla, vem, veq, vln] at *; (try dsimp only [Shp.D, Shp.Ds, Shp.dflt, Shp.dflts] at *); first | done | omega | skip)))
 all_goals
  rw [hx.1.1, wriB (by omega)]
  unfold partB
  simp only [List.append_assoc]
  cases more
  ·first | rfl | (simp at h; done)
  ·first | rfl | (simp at h; done)
theorem bt_step {ts : List TrT} {acc : List UInt8} {T : List UInt8} {k kq : Int} {m : Int} (h : acc ++ trsB (ts.drop k.toNat) = T) (h0 : 0 ≤ k) (hk : k < ts.length) (hm : m = if k < (ts.length : Int) - 1 then 3 else 0) (q : k + 1 = kq) : (acc ++ partB m (trB (ts.getD k.toNat (0, 0, 0, ())))) ++ trsB (ts.drop kq.toNat) = T := by
 rw [← h, trsB_drop ts k.toNat (by omega), ← q, show (k + 1).toNat = k.toNat + 1 by omega, ← List.append_assoc, hm]
 congr 4
 exact propext ⟨fun _ => by omega, fun _ => by omega⟩
theorem bp_step {l : List PrT} {acc : List UInt8} {T : List UInt8} {k kq : Int} {m : Int} (h : acc ++ prsB (l.drop k.toNat) = T) (h0 : 0 ≤ k) (hk : k < l.length) (hm : m = if k < (l.length : Int) - 1 then 2 else 0) (q : k + 1 = kq) : (acc ++ partB m (prB (l.getD k.toNat (0, 0, [], [], ())))) ++ prsB (l.drop kq.toNat) = T := by
 rw [← h, prsB_drop l k.toNat (by omega), ← q, show (k + 1).toNat = k.toNat + 1 by omega, ← List.append_assoc, hm]
 congr 4
 exact propext ⟨fun _ => by omega, fun _ => by omega⟩
theorem chk_at {l : List PrT} (h : chkF l = 0) {k : Int} (h0 : 0 ≤ k) (hk : k < l.length) : (l.getD k.toNat (0, 0, [], [], ())).2.2.1.length ≤ 8 ∧ (l.getD k.toNat (0, 0, [], [], ())).2.2.2.1.length ≤ 24 := by
 obtain ⟨_, _, h3⟩ := chk_0 h
 obtain ⟨_, _, _, a4, _, a6, _⟩ := one_0 (h3 k.toNat (by omega))
 have := spi_8 a4
 exact ⟨by have : ((l.getD k.toNat prD0).2.2.1.length : Int) ≤ 8 := this; exact Int.ofNat_le.1 this, a6⟩
theorem trb_0 {t : TrT} {x : List UInt8} (h : t.2.2.1 = 0) (hx : x = [toB (IntKind.u8.wrap t.1), toB 0] ++ putF (IntKind.u64.wrap t.2.1) 2) : x = trB t := by
 unfold trB
 rw [if_pos h, List.append_nil, hx]
theorem trb_1 {t : TrT} {x y z : List UInt8} (h : ¬ t.2.2.1 = 0) (hx : x = [toB (IntKind.u8.wrap t.1), toB 0] ++ putF (IntKind.u64.wrap t.2.1) 2) (hy : y = x ++ putF 32782 2) (hz : z = y ++ putF (IntKind.u64.wrap t.2.2.1) 2) : z = trB t := by
 unfold trB
 rw [if_neg h, hz, hy, hx]
 simp only [List.append_assoc]
theorem bt_go {ts : List TrT} {acc aq x0 x T : List UInt8} {k kq : Int} (h : acc ++ trsB (ts.drop k.toNat) = T) (h0 : 0 ≤ k) (hk : k < ts.length) (h24 : ts.length ≤ 24) (hl : (acc.length : Int) ≤ 12 + 16 * k)
    (hx : x = acc ++ partB (if k < ((ts.length : Int) - 1 + 9223372036854775808) % 18446744073709551616 - 9223372036854775808 then 3 else 0) x0) (hx0 : x0 = trB (ts.getD k.toNat (0, 0, 0, ()))) (q : (k + 1 + 9223372036854775808) % 18446744073709551616 - 9223372036854775808 = kq) (qx : x = aq) :
    (0 ≤ kq ∧ kq ≤ ts.length ∧ (aq.length : Int) ≤ 12 + 16 * kq ∧ aq ++ trsB (ts.drop kq.toNat) = T) ∧ ((ts.length : Int) - kq).toNat < ((ts.length : Int) - k).toNat := by
 rw [wriB (by omega)] at q hx
 have e := bt_step h h0 hk rfl q
 have hb := trB_len (ts.getD k.toNat (0, 0, 0, ()))
 subst qx hx hx0
 refine ⟨⟨by omega, by omega, ?_, e⟩, by omega⟩
 rw [List.length_append, partB_len]
 split at hb <;> omega
theorem bp_go {l : List PrT} {acc aq x x0 T : List UInt8} {k kq z : Int} (h : acc ++ prsB (l.drop k.toNat) = T) (h0 : 0 ≤ k) (hk : k < l.length) (h8 : l.length ≤ 8) (hl : (acc.length : Int) ≤ 408 * k) (hz : ¬ z < ((l.getD k.toNat (0, 0, [], [], ())).2.2.2.1.length : Int)) (hz1 : z ≤ 24) (hxl : (x0.length : Int) ≤ 12 + 16 * z)
    (hx : x = acc ++ partB (if k < ((l.length : Int) - 1 + 9223372036854775808) % 18446744073709551616 - 9223372036854775808 then 2 else 0) x0) (hx0 : x0 ++ trsB ((l.getD k.toNat (0, 0, [], [], ())).2.2.2.1.drop z.toNat) = prB (l.getD k.toNat (0, 0, [], [], ()))) (q : (k + 1 + 9223372036854775808) % 18446744073709551616 - 9223372036854775808 = kq) (qx : x = aq) :
    (0 ≤ kq ∧ kq ≤ l.length ∧ (aq.length : Int) ≤ 408 * kq ∧ aq ++ prsB (l.drop kq.toNat) = T) ∧ ((l.length : Int) - kq).toNat < ((l.length : Int) - k).toNat := by
 rw [wriB (by omega)] at q hx
 rw [List.drop_eq_nil_of_le (by omega), trsB, List.append_nil] at hx0
 have e := bp_step h h0 hk rfl q
 subst qx hx hx0
 refine ⟨⟨by omega, by omega, ?_, e⟩, by omega⟩
 rw [List.length_append, partB_len]
 omega
abbrev pbuSp : Spec := fnSpec [.sl prE] [.sl .byte, .int .i64] [5] (fun _ => True) fun x y => (y.1, y.2.1) = bldF x.1
def pbuC_t : SpecT := nd0 125 (lf0 124 (chkS)) (lf0 125 (partSp))
def pbuC_i : SpecT := lf0 66 (relS st (wputS))
def pbuC : Cx := ⟨tt, qt, bt, st, pbuC_t, 0, 1000000000000000, pbuC_i, true, CxE.no, []⟩
theorem pbuC_si {E : Env} (h : E.ok) : SpecsOk Tryz.prog E (CxE.no) pbuC_t (pbuC_i) := ⟨(nd0_ok (lf0_ok (.inl (pck_sp h))) (lf0_ok (.inl (ppa_sp h)))), (lf0_ok (relS_ok (wput_sp h)))⟩
theorem pbuC_x {E : Env} (h : E.ok) : CxEOk Tryz.prog E (CxE.no) := CxE.no_ok _ _
theorem pbuC_cx (E : Env) (h : E.ok) (h1 : E.lo = 0) (h2 : E.hi = 1000000000000000) : Cx.ok pbuC Tryz.prog E := ⟨tt_ok, qt_ok, bt_ok, pbuC_si h, h, h1, h2, mixed_ok, pbuC_x h⟩
theorem pbu_fn : hasFn Tryz.prog 104 := ⟨_, Tryz.func104, by rfl, by rfl⟩
theorem pbu_sp {E : Env} (hE : E.ok) : SpecOk Tryz.prog E 104 pbuSp := by
 refine spec_of_vc (C := pbuC) pbu_fn Tryz.func104 (by kernel_rfl) pbuC_cx (fun x hl hx => ?_) hE
 obtain ⟨l, ⟨⟩⟩ := x
 cbv
 (repeat' (first|((with_reducible apply And.intro <;> intro h) <;> (first|(with_reducible first|exact (tf h ‹_›).elim|exact (tf ‹_› h).elim)|cbv)) | ((with_reducible show JoinT (fun s K => vc _ (Code.region _ _ true) s K) _ _ _ _ _ _); (with_reducible apply JoinT.mg2); (focus (cbv; (repeat' (first|((with_reducible apply And.intro <;> intro h) <;> (first|(with_reducible first|exact (tf h ‹_›).elim|exact (tf ‹_› h).elim)|cbv))|((with_reducible first|apply Cb.mk|apply Lz.mk|apply JoinT.left|(apply AllT.mk;intro x hx));cbv)|((with_reducible refine Ob.mk (fun _ => ?_) ?_);rotate_left 1)|(with_reducible first|refine Mg.mk (Exists.intro ?_ (And.intro ?_ ?_))|rfl|apply Fin.mk|exact True.intro|apply And.intro))); (all_goals (try (have du : Unit := (); have dv : Unit := (); first | exact Goes.self (Ex2.mk ⟨dv, du, trivial, trivial, rfl⟩) | exact Goes.self (Ex2.mk ⟨x, du, hx, trivial, rfl⟩) | (rename_i xa hxa; exact Goes.self (Ex2.mk ⟨xa, x, hxa, hx, rfl⟩))))); (all_goals (fail_if_success (with_reducible first | show Goes _ _ _ _ | show (∃ _, unr _ _ _ _ _ _)))))))|((with_reducible first|apply Cb.mk|apply Lz.mk|apply JoinT.left|(apply AllT.mk;intro x hx));cbv)|((with_reducible refine Ob.mk (fun _ => ?_) ?_);rotate_left 1)|(with_reducible first|refine Mg.mk (Exists.intro ?_ (And.intro ?_ ?_))|rfl|apply Fin.mk|exact True.intro|apply And.intro)))
 all_goals first|(with_reducible first|show (∃ _, unr _ _ _ _ _ _)|show UnrI _ _ _ _ _|show Goes _ _ _ _|show JoinT _ _ _ _ _ _ _)|((try ((try dsimp only [Shp.D, Shp.Ds, Shp.dflt] at *); simp only [vla, vem, veq, vln] at *; (try dsimp only [Shp.D, Shp.Ds, Shp.dflt, Shp.dflts] at *); first | done | omega | skip)))
 ·unfold bldF; rw [if_neg (by assumption)]
 have hc : chkF l = 0 := by ((try dsimp only [Shp.D, Shp.Ds, Shp.dflt] at *); simp only [vla, vem, veq, vln] at *; (try dsimp only [Shp.D, Shp.Ds, Shp.dflt, Shp.dflts] at *); assumption)
 obtain ⟨c1, c2, c3⟩ := chk_0 hc
 have hb : bldF l = (prsB l, 0) := by unfold bldF; rw [if_pos hc]
 with_reducible refine loop_hv [(5, 900001, 5, .byte)] (6 :: 7 :: 8 :: 9 :: 10 :: 11 :: rangeN 20 67) [] [900001] (fun z b t y => 0 ≤ z 19 ∧ z 19 ≤ (l.length : Int) ∧ ((y 900001 .byte).length : Int) ≤ 408 * z 19 ∧ y 900001 .byte ++ prsB (l.drop (z 19).toNat) = prsB l) (fun z b t y => ((l.length : Int) - z 19).toNat) (by cbv) (by cbv) ?_ ?_ (fun z1 b1 t1 u1 y1 R1 hP1 hR1 => ?_)
 ·exact EndOk.au
 ·intro zq bq tq yq hUq
  have q19 := hUq.z 19
  have qy900001 := hUq.y 900001 (.byte)
  cbv at q19 qy900001
  replace q19 := q19.eq
  replace qy900001 := qy900001.eq
  simp only [atI, atB, atT, atY, convL_self, vem, veq, ne_eq, cmpI, arI, dvI, shI, SV.den] at q19 qy900001
  clear hUq
  try dsimp only [Shp.D, Shp.Ds, Shp.dflt] at *
  try simp only [vla, vem, veq] at *
  rw [← q19, ← qy900001]
  exact ⟨by omega, by omega, by simp, rfl⟩
 obtain ⟨p1, p2, p3, p4⟩ := hP1
 cbv
 (repeat' (first|((with_reducible apply And.intro <;> intro h) <;> (first|(with_reducible first|exact (tf h ‹_›).elim|exact (tf ‹_› h).elim)|cbv)) | ((with_reducible show JoinT (fun s K => vc _ (Code.region _ _ true) s K) _ _ _ _ _ _); (with_reducible apply JoinT.mg2); (focus (cbv; (repeat' (first|((with_reducible apply And.intro <;> intro h) <;> (first|(with_reducible first|exact (tf h ‹_›).elim|exact (tf ‹_› h).elim)|cbv))|((with_reducible first|apply Cb.mk|apply Lz.mk|apply JoinT.left|(apply AllT.mk;intro x hx));cbv)|((with_reducible refine Ob.mk (fun _ => ?_) ?_);rotate_left 1)|(with_reducible first|refine Mg.mk (Exists.intro ?_ (And.intro ?_ ?_))|rfl|apply Fin.mk|exact True.intro|apply And.intro))); (all_goals (try (have du : Unit := (); have dv : Unit := (); first | exact Goes.self (Ex2.mk ⟨dv, du, trivial, trivial, rfl⟩) | exact Goes.self (Ex2.mk ⟨x, du, hx, trivial, rfl⟩) | (rename_i xa hxa; exact Goes.self (Ex2.mk ⟨xa, x, hxa, hx, rfl⟩))))); (all_goals (fail_if_success (with_reducible first | show Goes _ _ _ _ | show (∃ _, unr _ _ _ _ _ _)))))))|((with_reducible first|apply Cb.mk|apply Lz.mk|apply JoinT.left|(apply AllT.mk;intro x hx));cbv)|((with_reducible refine Ob.mk (fun _ => ?_) ?_);rotate_left 1)|(with_reducible first|refine Mg.mk (Exists.intro ?_ (And.intro ?_ ?_))|rfl|apply Fin.mk|exact True.intro|apply And.intro)))
 all_goals first|(with_reducible first|show (∃ _, unr _ _ _ _ _ _)|show UnrI _ _ _ _ _|show Goes _ _ _ _|show JoinT _ _ _ _ _ _ _)|((try ((try dsimp only [Shp.D, Shp.Ds, Shp.dflt] at *); simp only [vla, vem, veq, vln] at *; (try dsimp only [Shp.D, Shp.Ds, Shp.dflt, Shp.dflts] at *); first | done | omega | skip)))
 all_goals first
  | (with_reducible show (∃ _, unr _ _ _ _ _ _); skip)
  | (have hs := (chk_at hc p1 (by assumption)).1; refine ⟨?_, ?_⟩ <;> omega)
  | (rw [List.drop_eq_nil_of_le (by omega)] at p4; simp only [prsB, List.append_nil] at p4; rw [hb, p4])
 have hlt : z1 19 < (l.length : Int) := by ((try dsimp only [Shp.D, Shp.Ds, Shp.dflt] at *); simp only [vla, vem, veq, vln] at *; (try dsimp only [Shp.D, Shp.Ds, Shp.dflt, Shp.dflts] at *); assumption)
 obtain ⟨s1, s2⟩ := chk_at hc p1 hlt
 with_reducible refine loop_hv [(8, 900002, 5, .byte)] (9 :: 10 :: 11 :: 38 :: 41 :: rangeN 46 41) [] [900002] (fun z b t y => 0 ≤ z 45 ∧ z 45 ≤ ((l.getD (z1 19).toNat (0, 0, [], [], ())).2.2.2.1.length : Int) ∧ ((y 900002 .byte).length : Int) ≤ 12 + 16 * z 45 ∧ y 900002 .byte ++ trsB ((l.getD (z1 19).toNat (0, 0, [], [], ())).2.2.2.1.drop (z 45).toNat) = prB (l.getD (z1 19).toNat (0, 0, [], [], ()))) (fun z b t y => ((((l.getD (z1 19).toNat (0, 0, [], [], ())).2.2.2.1.length : Nat) : Int) - z 45).toNat) (by cbv) (by cbv) ?_ ?_ (fun z2 b2 t2 u2 y2 R2 hP2 hR2 => ?_)
 ·exact EndOk.au
 ·intro zq bq tq yq hUq
  have q45 := hUq.z 45
  have qy900002 := hUq.y 900002 (.byte)
  cbv at q45 qy900002
  replace q45 := q45.eq
  replace qy900002 := qy900002.eq
  simp only [atI, atB, atT, atY, convL_self, vem, veq, ne_eq, cmpI, arI, dvI, shI, SV.den] at q45 qy900002
  clear hUq
  try dsimp only [Shp.D, Shp.Ds, Shp.dflt] at *
  try simp only [vla, vem, veq] at *
  (try ((try dsimp only [Shp.D, Shp.Ds, Shp.dflt] at *); simp only [vla, vem, veq, vln] at *; (try dsimp only [Shp.D, Shp.Ds, Shp.dflt, Shp.dflts] at *)))
  try dsimp only [Shp.D, Shp.Ds, Shp.dflt, Shp.dflts] at *
  rw [← q45, ← qy900002]
  have s1' : (l.getD (z1 19).toNat (0, 0, [], [], ())).2.2.1.length ≤ 8 := s1
  exact ⟨by omega, by omega, by simp only [List.length_append, List.length_cons, List.length_nil]; omega, rfl⟩
 obtain ⟨r1, r2, r3, r4⟩ := hP2
 have hz : z2 45 ≤ 24 := by omega
 cbv
 (repeat' (first|((with_reducible apply And.intro <;> intro h) <;> (first|(with_reducible first|exact (tf h ‹_›).elim|exact (tf ‹_› h).elim)|cbv)) | ((with_reducible show JoinT (fun s K => vc _ (Code.region _ _ true) s K) _ _ _ _ _ _); (with_reducible apply JoinT.mg2); (focus (cbv; (repeat' (first|((with_reducible apply And.intro <;> intro h) <;> (first|(with_reducible first|exact (tf h ‹_›).elim|exact (tf ‹_› h).elim)|cbv))|((with_reducible first|apply Cb.mk|apply Lz.mk|apply JoinT.left|(apply AllT.mk;intro x hx));cbv)|((with_reducible refine Ob.mk (fun _ => ?_) ?_);rotate_left 1)|(with_reducible first|refine Mg.mk (Exists.intro ?_ (And.intro ?_ ?_))|rfl|apply Fin.mk|exact True.intro|apply And.intro))); (all_goals (try (have du : Unit := (); have dv : Unit := (); first | exact Goes.self (Ex2.mk ⟨dv, du, trivial, trivial, rfl⟩) | exact Goes.self (Ex2.mk ⟨x, du, hx, trivial, rfl⟩) | (rename_i xa hxa; exact Goes.self (Ex2.mk ⟨xa, x, hxa, hx, rfl⟩))))); (all_goals (fail_if_success (with_reducible first | show Goes _ _ _ _ | show (∃ _, unr _ _ _ _ _ _)))))))|((with_reducible first|apply Cb.mk|apply Lz.mk|apply JoinT.left|(apply AllT.mk;intro x hx));cbv)|((with_reducible refine Ob.mk (fun _ => ?_) ?_);rotate_left 1)|(with_reducible first|refine Mg.mk (Exists.intro ?_ (And.intro ?_ ?_))|rfl|apply Fin.mk|exact True.intro|apply And.intro)))
 all_goals first|(with_reducible first|show (∃ _, unr _ _ _ _ _ _)|show UnrI _ _ _ _ _|show Goes _ _ _ _|show JoinT _ _ _ _ _ _ _)|((try ((try dsimp only [Shp.D, Shp.Ds, Shp.dflt] at *); simp only [vla, vem, veq, vln] at *; (try dsimp only [Shp.D, Shp.Ds, Shp.dflt, Shp.dflts] at *); first | done | omega | skip)))
 all_goals first
  | (((with_reducible refine hR2 _ ?_ (fun zq bq tq yq hUq => ?_)); (focus (exact EndOk.au)); (have q45 := hUq.z 45); (have qy900002 := hUq.y 900002 (.byte)); (cbv at q45 qy900002); (replace q45 := q45.eq); (replace qy900002 := qy900002.eq); (simp only [atI, atB, atT, atY, convL_self, vem, veq, ne_eq, cmpI, arI, dvI, shI, SV.den] at q45 qy900002); (clear hUq hR2); (try dsimp only [Shp.D, Shp.Ds, Shp.dflt] at *); (try simp only [vem, veq, ne_eq, cmpI, arI, dvI, shI, SV.den, elemAt, convL_self] at *); (try dsimp only [Shp.D, Shp.Ds, Shp.dflt, Shp.dflts] at *)); (try ((try dsimp only [Shp.D, Shp.Ds, Shp.dflt] at *); simp only [vla, vem, veq, vln] at *; (try dsimp only [Shp.D, Shp.Ds, Shp.dflt, Shp.dflts] at *))); exact bt_go r4 r1 (by assumption) s2 r3 (‹_ = _ ++ partB _ _ ∧ Shp.lims _ _›).1 (trb_0 (by assumption) (‹(_ = [_, _] ++ putF _ _ ∧ _) ∧ Shp.lims _ _›).1.1) q45 qy900002)
  | (((with_reducible refine hR2 _ ?_ (fun zq bq tq yq hUq => ?_)); (focus (exact EndOk.au)); (have q45 := hUq.z 45); (have qy900002 := hUq.y 900002 (.byte)); (cbv at q45 qy900002); (replace q45 := q45.eq); (replace qy900002 := qy900002.eq); (simp only [atI, atB, atT, atY, convL_self, vem, veq, ne_eq, cmpI, arI, dvI, shI, SV.den] at q45 qy900002); (clear hUq hR2); (try dsimp only [Shp.D, Shp.Ds, Shp.dflt] at *); (try simp only [vem, veq, ne_eq, cmpI, arI, dvI, shI, SV.den, elemAt, convL_self] at *); (try dsimp only [Shp.D, Shp.Ds, Shp.dflt, Shp.dflts] at *)); (try ((try dsimp only [Shp.D, Shp.Ds, Shp.dflt] at *); simp only [vla, vem, veq, vln] at *; (try dsimp only [Shp.D, Shp.Ds, Shp.dflt, Shp.dflts] at *))); exact bt_go r4 r1 (by assumption) s2 r3 (‹_ = _ ++ partB _ _ ∧ Shp.lims _ _›).1 (trb_1 (by assumption) (‹(_ = [_, _] ++ putF _ _ ∧ _) ∧ Shp.lims _ _›).1.1 (‹(_ = _ ++ putF 32782 2 ∧ _) ∧ Shp.lims _ _›).1.1 (‹(_ = _ ++ putF (IntKind.u64.wrap _) 2 ∧ _) ∧ Shp.lims _ _›).1.1) q45 qy900002)
  | (((with_reducible refine hR1 _ ?_ (fun zq bq tq yq hUq => ?_)); (focus (exact EndOk.au)); (have q19 := hUq.z 19); (have qy900001 := hUq.y 900001 (.byte)); (cbv at q19 qy900001); (replace q19 := q19.eq); (replace qy900001 := qy900001.eq); (simp only [atI, atB, atT, atY, convL_self, vem, veq, ne_eq, cmpI, arI, dvI, shI, SV.den] at q19 qy900001); (clear hUq hR1); (try dsimp only [Shp.D, Shp.Ds, Shp.dflt] at *); (try simp only [vem, veq, ne_eq, cmpI, arI, dvI, shI, SV.den, elemAt, convL_self] at *); (try dsimp only [Shp.D, Shp.Ds, Shp.dflt, Shp.dflts] at *)); (try ((try dsimp only [Shp.D, Shp.Ds, Shp.dflt] at *); simp only [vla, vem, veq, vln] at *; (try dsimp only [Shp.D, Shp.Ds, Shp.dflt, Shp.dflts] at *))); exact bp_go p4 p1 (by assumption) c2 p3 (by assumption) hz r3 (‹_ = _ ++ partB _ _ ∧ Shp.lims _ _›).1 r4 q19 qy900001)
end
end Go.Proofs.YtkifmppmfkpfbaaGreat.V
