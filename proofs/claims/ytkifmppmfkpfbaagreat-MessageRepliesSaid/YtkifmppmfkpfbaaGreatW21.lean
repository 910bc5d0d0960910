import Derived.Test.YtkifmppmfkpfbaaGreatW20
import Derived.Test.YtkifmppmfkpfbaaGreatW19
set_option linter.unusedVariables false
set_option linter.unusedSimpArgs false
namespace Go.Proofs.YtkifmppmfkpfbaaGreat.V
open Go.RowKit
section
abbrev hdE : Shp := .st [.int .u64, .int .u64, .int .i64, .int .i64, .int .i64, .int .u32]
abbrev HdT : Type := Int × Int × Int × Int × Int × Int × Unit
abbrev idE : Shp := .st [.int .i64, .sl .byte]
abbrev notE : Shp := .st [.int .i64, .sl .byte, .int .i64, .sl .byte]
abbrev delE : Shp := .st [.int .i64, .sl (.sl .byte)]
abbrev plE : Shp := .st [.int .i64, .sl prE, idE, idE, idE, notE, delE, .sl selE, .sl .byte]
abbrev msgE : Shp := .st [hdE, .sl plE]
abbrev rawE : Shp := .st [.int .i64, .bool, .sl .byte]
end
section
abbrev IdT : Type := Int × List UInt8 × Unit
abbrev NotT : Type := Int × List UInt8 × Int × List UInt8 × Unit
abbrev DelT : Type := Int × List (List UInt8) × Unit
abbrev PlT : Type := Int × List PrT × IdT × IdT × IdT × NotT × DelT × List SelT × List UInt8 × Unit
abbrev id0 : IdT := (0, [], ())
abbrev not0 : NotT := (0, [], 0, [], ())
abbrev del0 : DelT := (0, [], ())
abbrev pl0 : PlT := (0, [], id0, id0, id0, not0, del0, [], [], ())
def at1 (b : List UInt8) (k : Nat) : Int := ((b.getD k 0).toNat : Int)
theorem at1_rng (b : List UInt8) (k : Nat) : 0 ≤ at1 b k ∧ at1 b k < 256 := by
 have := (b.getD k 0).toNat_lt
 unfold at1
 omega
def cknF (n : Int) : Int := if n < 16 ∨ 256 < n then 13 else 0
def ckiF (k n : Int) : Int :=
 if k = 1 then (if n = 4 then 0 else 2)
 else if k = 5 then (if n = 16 then 0 else 2)
 else if k = 2 ∨ k = 3 ∨ k = 11 then (if 0 < n then 0 else 2) else 5
def ckaF (m n : Int) : Int := if m ≠ 2 ∧ m ≠ 14 then 5 else if n = 0 then 2 else 0
def ckeF (n : Int) : Int := if n = 0 then 13 else 0
def cnoF (p n : Int) : Int := if p < 0 ∨ 3 < p then 5 else if n = (if 1 < p then 4 else 0) then 0 else 20
def cdeF (p n c : Int) : Int := if p < 1 ∨ 3 < p then 5 else if n = (if p = 1 then 0 else 4) ∧ (p = 1 → c = 0) then 0 else 20
def dupS : List (List UInt8) → List (List UInt8) → Bool
 | _, [] => false
 | pre, x :: l => pre.contains x || dupS (pre ++ [x]) l
def chsF (p : Int) (l : List (List UInt8)) : Int := if p ≠ 1 ∧ l = [] then 8 else if dupS [] l = true then 9 else 0
structure NotB (n : NotT) : Prop where
 spi : n.2.1.length ≤ 1000000
 data : n.2.2.2.1.length ≤ 1000000
structure PlB (p : PlT) : Prop where
 exc : p.2.2.1.2.1.length ≤ 1000000
 idy : p.2.2.2.1.2.1.length ≤ 1000000
 aut : p.2.2.2.2.1.2.1.length ≤ 1000000
 note : NotB p.2.2.2.2.2.1
 del : p.2.2.2.2.2.2.1.2.1.length ≤ 1000000
structure DelB (d : DelT) : Prop where
 le : d.2.1.length ≤ 1000000
structure MsgB (l : List PlT) : Prop where
 few : l.length ≤ 100
 pb : ∀ p ∈ l, PlB p
end
section
set_option maxHeartbeats 8000000
set_option maxRecDepth 100000
theorem adr4_in (x y : Int) (h0 : 0 ≤ x) (h1 : x < 4) (h2 : 0 ≤ y) (h3 : y < 8) : AdrF 4 ⟨4, 0, IntKind.u64.wrap (selI [167772160, 3232235520, 0, 4294967288] x + IntKind.u64.wrap y)⟩ := by
 have hx : 0 ≤ selI [167772160, 3232235520, 0, 4294967288] x ∧ selI [167772160, 3232235520, 0, 4294967288] x ≤ 4294967288 := by
  rcases (show x = 0 ∨ x = 1 ∨ x = 2 ∨ x = 3 from by omega) with rfl | rfl | rfl | rfl <;> decide
 generalize selI [167772160, 3232235520, 0, 4294967288] x = z at *
 have e : IntKind.u64.wrap (z + IntKind.u64.wrap y) = z + y := by rw [IntKind.wrap_u64, IntKind.wrap_u64]; omega
 rw [e]
 exact ⟨rfl, ⟨by simp, by simp, by simp, by simp, by simp only; omega, by simp only; omega⟩, by simp [valid]; omega⟩
theorem adr6_in (x y z : Int) (h0 : 0 ≤ x) (h1 : x < 3) (h2 : 0 ≤ y) (h3 : y < 3) (h4 : 0 ≤ z) (h5 : z < 8) :
    AdrF 6 ⟨6, selI [2306139568115548160, 0, 18446744073709551615] x, IntKind.u64.wrap (selI [0, 18446744073709551608, 9223372036854775808] y + IntKind.u64.wrap z)⟩ := by
 have hx : 0 ≤ selI [2306139568115548160, 0, 18446744073709551615] x ∧ selI [2306139568115548160, 0, 18446744073709551615] x ≤ 18446744073709551615 := by
  rcases (show x = 0 ∨ x = 1 ∨ x = 2 from by omega) with rfl | rfl | rfl <;> decide
 have e := IntKind.wrap_u64 (selI [0, 18446744073709551608, 9223372036854775808] y + IntKind.u64.wrap z)
 refine ⟨rfl, ⟨by simp, by simp, by simp only; omega, by simp only; omega, ?_, ?_⟩, by simp [valid]⟩
 ·simp only [e]; omega
 ·simp only [e]; omega
theorem selp_in (x : Int) (h0 : 0 ≤ x) (h1 : x < 5) : 0 ≤ selI [0, 0, 6, 17, 1] x ∧ selI [0, 0, 6, 17, 1] x ≤ 255 := by
 rcases (show x = 0 ∨ x = 1 ∨ x = 2 ∨ x = 3 ∨ x = 4 from by omega) with rfl | rfl | rfl | rfl | rfl <;> decide
theorem selq_in (x y : Int) (h0 : 0 ≤ x) (h1 : x < 5) (h2 : 0 ≤ y) (h3 : y < 6) : 0 ≤ selI [0, 80, 443, 65530, 1] x ∧ selI [0, 80, 443, 65530, 1] x ≤ (if (selI [0, 80, 443, 65530, 1] x + y + 9223372036854775808) % 18446744073709551616 - 9223372036854775808 < 65535 then (selI [0, 80, 443, 65530, 1] x + y + 9223372036854775808) % 18446744073709551616 - 9223372036854775808 else 65535) ∧ (if (selI [0, 80, 443, 65530, 1] x + y + 9223372036854775808) % 18446744073709551616 - 9223372036854775808 < 65535 then (selI [0, 80, 443, 65530, 1] x + y + 9223372036854775808) % 18446744073709551616 - 9223372036854775808 else 65535) ≤ 65535 := by
 have hx : 0 ≤ selI [0, 80, 443, 65530, 1] x ∧ selI [0, 80, 443, 65530, 1] x ≤ 65530 := by
  rcases (show x = 0 ∨ x = 1 ∨ x = 2 ∨ x = 3 ∨ x = 4 from by omega) with rfl | rfl | rfl | rfl | rfl <;> decide
 generalize selI [0, 80, 443, 65530, 1] x = z at *
 split <;> omega
def allC_t : SpecT := lf0 114 (fnSpec [adrE, .int .i64] [adrE, adrE, .int .i64] [] pfxPre pfxPost)
def allC : Cx := ⟨tt, qt, bt, st, allC_t, 0, 1000000000000000, fun _ => none, false, CxE.no, []⟩
theorem allC_si {E : Env} (h : E.ok) : SpecsOk Tryz.prog E (CxE.no) allC_t (fun _ => none) := ⟨(lf0_ok (.inl (prefix_sp h))), noI_ok _ _ _⟩
theorem allC_x {E : Env} (h : E.ok) : CxEOk Tryz.prog E (CxE.no) := CxE.no_ok _ _
theorem allC_cx (E : Env) (h : E.ok) (h1 : E.lo = 0) (h2 : E.hi = 1000000000000000) : Cx.ok allC Tryz.prog E := ⟨tt_ok, qt_ok, bt_ok, allC_si h, h, h1, h2, mixed_ok, allC_x h⟩
abbrev famPre : Shp.Ds [.int .i64] → Prop := fun x => x.1 = 4 ∨ x.1 = 6
abbrev spanPost : Shp.Ds [.int .i64] → Shp.Ds [adrE, adrE] → Prop := fun x y => SpanP x.1 (toAdr y.1) (toAdr y.2.1)
theorem adrF0 {f : Int} (h : f = 4 ∨ f = 6) : AdrF f ⟨f, 0, 0⟩ := by
 rcases h with rfl | rfl
 ·exact ⟨rfl, ⟨by decide, by decide, by decide, by decide, by decide, by decide⟩, rfl⟩
 ·exact ⟨rfl, ⟨by decide, by decide, by decide, by decide, by decide, by decide⟩, rfl⟩
theorem rall_fn : hasFn Tryz.prog 113 := ⟨_, Tryz.func113, by rfl, by rfl⟩
theorem rall_sp {E : Env} (hE : E.ok) : SpecOk Tryz.prog E 113 (fnSpec [.int .i64] [adrE, adrE] [] famPre spanPost) := by
 refine spec_of_vc (C := allC) rall_fn Tryz.func113 (by kernel_rfl) allC_cx (fun x hl hx => ?_) hE
 obtain ⟨f, u⟩ := x
 cbv
 (repeat' (first|((with_reducible apply And.intro <;> intro h) <;> (first|(with_reducible first|exact (tf h ‹_›).elim|exact (tf ‹_› h).elim)|cbv))|((with_reducible first|apply Cb.mk|apply Lz.mk|apply JoinT.left|(apply AllT.mk;intro x hx));cbv)|((with_reducible refine Ob.mk (fun _ => ?_) ?_);rotate_left 1)|(with_reducible first|refine Mg.mk (Exists.intro ?_ (And.intro ?_ ?_))|rfl|apply Fin.mk|exact True.intro|apply And.intro)))
 all_goals (try dsimp only [Shp.D, Shp.Ds, Shp.dflt] at *); simp only [vla, vem, veq, vln] at *; (try dsimp only [Shp.D, Shp.Ds, Shp.dflt, Shp.dflts] at *)
 ·exact hx.1.1
 ·exact adrF0 hx
 ·exact Int.le_refl _
 ·exact Int.natCast_nonneg _
theorem adr_fn : hasFn Tryz.prog 115 := ⟨_, Tryz.func115, by rfl, by rfl⟩
abbrev adrPost : Shp.Ds [.int .i64] → Shp.Ds [adrE] → Prop := fun x y => AdrF x.1 (toAdr y.1)
theorem adr_sp {E : Env} (hE : E.ok) : SpecOk Tryz.prog E 115 (drSpec 74 [.int .i64] [adrE] [] famPre adrPost) := by
 refine spec_of_vcD (C := nxC) adr_fn Tryz.func115 (by kernel_rfl) nxC_cx (fun x hl hx => ?_) hE
 obtain ⟨f, u⟩ := x
 rcases (show f = 4 ∨ f = 6 from hx) with rfl | rfl
 ·cbv
  (repeat' (first|((with_reducible apply And.intro <;> intro h) <;> (first|(with_reducible first|exact (tf h ‹_›).elim|exact (tf ‹_› h).elim)|cbv))|((with_reducible first|apply Cb.mk|apply Lz.mk|apply JoinT.left|(apply AllT.mk;intro x hx));cbv)|((with_reducible refine Ob.mk (fun _ => ?_) ?_);rotate_left 1)|(with_reducible first|refine Mg.mk (Exists.intro ?_ (And.intro ?_ ?_))|rfl|apply Fin.mk|exact True.intro|apply And.intro)))
  all_goals first
   | (((try dsimp only [Shp.D, Shp.Ds, Shp.dflt] at *); simp only [vla, vem, veq, vln] at *; (try dsimp only [Shp.D, Shp.Ds, Shp.dflt, Shp.dflts] at *)) <;> (try simp only [Shp.lims, Shp.lim, IntKind.wrap_u64, IntKind.wrap_u8] at *) <;> omega)
   | skip
  all_goals (try dsimp only [Shp.D, Shp.Ds, Shp.dflt] at *); simp only [vla, vem, veq, vln] at *; (try dsimp only [Shp.D, Shp.Ds, Shp.dflt, Shp.dflts] at *)
  all_goals first
   | exact absurd trivial ‹¬ True›
   | exact adr4_in _ _ (by omega) (by omega) (by omega) (by omega)
   | exact adr6_in _ _ _ (by omega) (by omega) (by omega) (by omega) (by omega) (by omega)
 ·cbv
  (repeat' (first|((with_reducible apply And.intro <;> intro h) <;> (first|(with_reducible first|exact (tf h ‹_›).elim|exact (tf ‹_› h).elim)|cbv))|((with_reducible first|apply Cb.mk|apply Lz.mk|apply JoinT.left|(apply AllT.mk;intro x hx));cbv)|((with_reducible refine Ob.mk (fun _ => ?_) ?_);rotate_left 1)|(with_reducible first|refine Mg.mk (Exists.intro ?_ (And.intro ?_ ?_))|rfl|apply Fin.mk|exact True.intro|apply And.intro)))
  all_goals first
   | (((try dsimp only [Shp.D, Shp.Ds, Shp.dflt] at *); simp only [vla, vem, veq, vln] at *; (try dsimp only [Shp.D, Shp.Ds, Shp.dflt, Shp.dflts] at *)) <;> (try simp only [Shp.lims, Shp.lim, IntKind.wrap_u64, IntKind.wrap_u8] at *) <;> omega)
   | skip
  all_goals (try dsimp only [Shp.D, Shp.Ds, Shp.dflt] at *); simp only [vla, vem, veq, vln] at *; (try dsimp only [Shp.D, Shp.Ds, Shp.dflt, Shp.dflts] at *)
  all_goals first
   | exact absurd trivial ‹¬ True›
   | exact adr4_in _ _ (by omega) (by omega) (by omega) (by omega)
   | exact adr6_in _ _ _ (by omega) (by omega) (by omega) (by omega) (by omega) (by omega)
def spC_t : SpecT := nd0 114 (nd0 113 (lf0 12 (drSpec 74 [.int .i64] [.int .i64] [] nextPre nextPost)) (lf0 113 (fnSpec [.int .i64] [adrE, adrE] [] famPre spanPost))) (nd0 115 (lf0 114 (fnSpec [adrE, .int .i64] [adrE, adrE, .int .i64] [] pfxPre pfxPost)) (lf0 115 (drSpec 74 [.int .i64] [adrE] [] famPre adrPost)))
def spC : Cx := ⟨tt, qt, bt, st, spC_t, 0, 1000000000000000, fun _ => none, false, CxE.no, []⟩
theorem spC_si {E : Env} (h : E.ok) : SpecsOk Tryz.prog E (CxE.no) spC_t (fun _ => none) := ⟨(nd0_ok (nd0_ok (lf0_ok (.inl (next_sp h))) (lf0_ok (.inl (rall_sp h)))) (nd0_ok (lf0_ok (.inl (prefix_sp h))) (lf0_ok (.inl (adr_sp h))))), noI_ok _ _ _⟩
theorem spC_x {E : Env} (h : E.ok) : CxEOk Tryz.prog E (CxE.no) := CxE.no_ok _ _
theorem spC_cx (E : Env) (h : E.ok) (h1 : E.lo = 0) (h2 : E.hi = 1000000000000000) : Cx.ok spC Tryz.prog E := ⟨tt_ok, qt_ok, bt_ok, spC_si h, h, h1, h2, mixed_ok, spC_x h⟩
theorem spanOf {f : Int} {a b : Adr} (ha : AdrF f a) (hb : AdrF f b) (h : a.hi < b.hi ∨ (a.hi = b.hi ∧ a.lo ≤ b.lo)) : SpanP f a b := by
 refine ⟨ha, hb, ?_⟩
 have h1 := ha.fam; have h2 := hb.fam
 have h3 := ha.ok.l0; have h4 := ha.ok.l1; have h5 := hb.ok.l0; have h6 := hb.ok.l1
 unfold key
 rw [h1, h2]
 omega
theorem span_fn : hasFn Tryz.prog 88 := ⟨_, Tryz.func88, by rfl, by rfl⟩
theorem span_sp {E : Env} (hE : E.ok) : SpecOk Tryz.prog E 88 (drSpec 74 [.int .i64] [adrE, adrE] [] famPre spanPost) := by
 refine spec_of_vcD (C := spC) span_fn Tryz.func88 (by kernel_rfl) spC_cx (fun x hl hx => ?_) hE
 obtain ⟨f, u⟩ := x
 have hf : f = 4 ∨ f = 6 := hx
 have hb : 32 ≤ abits f := by unfold abits; split <;> omega
 cbv
 (repeat' (first|((with_reducible apply And.intro <;> intro h) <;> (first|(with_reducible first|exact (tf h ‹_›).elim|exact (tf ‹_› h).elim)|cbv))|((with_reducible first|apply Cb.mk|apply Lz.mk|apply JoinT.left|(apply AllT.mk;intro x hx));cbv)|((with_reducible refine Ob.mk (fun _ => ?_) ?_);rotate_left 1)|(with_reducible first|refine Mg.mk (Exists.intro ?_ (And.intro ?_ ?_))|rfl|apply Fin.mk|exact True.intro|apply And.intro)))
 all_goals first
  | (((try dsimp only [Shp.D, Shp.Ds, Shp.dflt] at *); simp only [vla, vem, veq, vln] at *; (try dsimp only [Shp.D, Shp.Ds, Shp.dflt, Shp.dflts] at *)) <;> (try simp only [Shp.lims, Shp.lim, IntKind.wrap_u64, IntKind.wrap_u8] at *) <;> omega)
  | skip
 all_goals (try dsimp only [Shp.D, Shp.Ds, Shp.dflt] at *); simp only [vla, vem, veq, vln] at *; (try dsimp only [Shp.D, Shp.Ds, Shp.dflt, Shp.dflts] at *)
 ·exact hx.1
 ·rename_i xa xm _ _ ha _
  have e : xa.fst.fst = f := ha.1.fam
  rw [e] at hx
  exact hx.1.1
 ·rename_i xa _ _ _ ha
  have e : xa.fst.fst = f := ha.1.fam
  have h2 : AdrF xa.fst.fst (toAdr xa.fst) := by rw [e]; exact ha.1
  exact h2
 ·rename_i ha
  have e := ha.1.fam
  simp only [toAdr] at e
  rw [e]
  omega
 ·rename_i ha
  exact spanOf hx.1 ha.1 (.inl (by simp only [toAdr]; omega))
 ·rename_i ha hn he
  exact spanOf hx.1 ha.1 (.inr (by simp only [toAdr]; omega))
 ·rename_i ha hn he
  exact spanOf ha.1 hx.1 (.inr (by simp only [toAdr]; omega))
 ·rename_i ha hn
  exact spanOf ha.1 hx.1 (.inl (by simp only [toAdr]; omega))
structure SelG (f : Int) (s : Sel) : Prop where
 good : s.good
 fam : s.lo.fam = f
theorem selGood {f pr pl ph : Int} {a b : Adr} (h : SpanP f a b) (hp : 0 ≤ pr ∧ pr ≤ 255) (hq : (pl = 65535 ∧ ph = 0) ∨ (0 ≤ pl ∧ pl ≤ ph ∧ ph ≤ 65535)) : SelG f ⟨pr, pl, ph, a, b⟩ := by
 obtain ⟨ha, hb, hk⟩ := h
 exact ⟨⟨⟨ha.ok, hb.ok, by rw [ha.fam, hb.fam], hk, hp.1, hp.2, hq⟩, ha.val, hb.val⟩, ha.fam⟩
abbrev selPost : Shp.Ds [.int .i64] → Shp.Ds [selE] → Prop := fun x y => SelG x.1 (toSel y.1)
def slC_t : SpecT := nd0 88 (lf0 12 (drSpec 74 [.int .i64] [.int .i64] [] nextPre nextPost)) (lf0 88 (drSpec 74 [.int .i64] [adrE, adrE] [] famPre spanPost))
def slC : Cx := ⟨tt, qt, bt, st, slC_t, 0, 1000000000000000, fun _ => none, false, CxE.no, []⟩
theorem slC_si {E : Env} (h : E.ok) : SpecsOk Tryz.prog E (CxE.no) slC_t (fun _ => none) := ⟨(nd0_ok (lf0_ok (.inl (next_sp h))) (lf0_ok (.inl (span_sp h)))), noI_ok _ _ _⟩
theorem slC_x {E : Env} (h : E.ok) : CxEOk Tryz.prog E (CxE.no) := CxE.no_ok _ _
theorem slC_cx (E : Env) (h : E.ok) (h1 : E.lo = 0) (h2 : E.hi = 1000000000000000) : Cx.ok slC Tryz.prog E := ⟨tt_ok, qt_ok, bt_ok, slC_si h, h, h1, h2, mixed_ok, slC_x h⟩
theorem selr_fn : hasFn Tryz.prog 70 := ⟨_, Tryz.func70, by rfl, by rfl⟩
theorem selr_sp {E : Env} (hE : E.ok) : SpecOk Tryz.prog E 70 (drSpec 74 [.int .i64] [selE] [] famPre selPost) := by
 refine spec_of_vcD (C := slC) selr_fn Tryz.func70 (by kernel_rfl) slC_cx (fun x hl hx => ?_) hE
 obtain ⟨f, u⟩ := x
 have hf : f = 4 ∨ f = 6 := hx
 cbv
 (repeat' (first|((with_reducible apply And.intro <;> intro h) <;> (first|(with_reducible first|exact (tf h ‹_›).elim|exact (tf ‹_› h).elim)|cbv))|((with_reducible first|apply Cb.mk|apply Lz.mk|apply JoinT.left|(apply AllT.mk;intro x hx));cbv)|((with_reducible refine Ob.mk (fun _ => ?_) ?_);rotate_left 1)|(with_reducible first|refine Mg.mk (Exists.intro ?_ (And.intro ?_ ?_))|rfl|apply Fin.mk|exact True.intro|apply And.intro)))
 all_goals first
  | (((try dsimp only [Shp.D, Shp.Ds, Shp.dflt] at *); simp only [vla, vem, veq, vln] at *; (try dsimp only [Shp.D, Shp.Ds, Shp.dflt, Shp.dflts] at *)) <;> (try simp only [Shp.lims, Shp.lim, IntKind.wrap_u64, IntKind.wrap_u8] at *) <;> omega)
  | skip
 all_goals (try dsimp only [Shp.D, Shp.Ds, Shp.dflt] at *); simp only [vla, vem, veq, vln] at *; (try dsimp only [Shp.D, Shp.Ds, Shp.dflt, Shp.dflts] at *)
 all_goals (obtain ⟨hspan, _⟩ := ‹SpanP f _ _ ∧ _›)
 all_goals first
  | exact selGood hspan (selp_in _ (by omega) (by omega)) (.inl ⟨rfl, rfl⟩)
  | exact selGood hspan (selp_in _ (by omega) (by omega)) (.inr ⟨by dsimp only; omega, by dsimp only; omega, by dsimp only; omega⟩)
  | exact selGood hspan (selp_in _ (by omega) (by omega)) (.inr (selq_in _ _ (by omega) (by omega) (by omega) (by omega)))
def slsC_t : SpecT := nd0 70 (lf0 12 (drSpec 74 [.int .i64] [.int .i64] [] nextPre nextPost)) (lf0 70 (drSpec 74 [.int .i64] [selE] [] famPre selPost))
def slsC : Cx := ⟨tt, qt, bt, st, slsC_t, 0, 1000000000000000, fun _ => none, false, CxE.no, []⟩
theorem slsC_si {E : Env} (h : E.ok) : SpecsOk Tryz.prog E (CxE.no) slsC_t (fun _ => none) := ⟨(nd0_ok (lf0_ok (.inl (next_sp h))) (lf0_ok (.inl (selr_sp h)))), noI_ok _ _ _⟩
theorem slsC_x {E : Env} (h : E.ok) : CxEOk Tryz.prog E (CxE.no) := CxE.no_ok _ _
theorem slsC_cx (E : Env) (h : E.ok) (h1 : E.lo = 0) (h2 : E.hi = 1000000000000000) : Cx.ok slsC Tryz.prog E := ⟨tt_ok, qt_ok, bt_ok, slsC_si h, h, h1, h2, mixed_ok, slsC_x h⟩
theorem selrs_fn : hasFn Tryz.prog 44 := ⟨_, Tryz.func44, by rfl, by rfl⟩
structure SelsG (m : Int) (l : List SelT) : Prop where
 ne : 1 ≤ l.length
 le : (l.length : Int) ≤ m
 all : ∃ f, (f = 4 ∨ f = 6) ∧ ∀ s ∈ l, SelG f (toSel s)
theorem selrs_sp {E : Env} (hE : E.ok) : SpecOk Tryz.prog E 44 (drSpec 74 [.int .i64] [.sl selE] [.own 139] (fun x => 1 ≤ x.1 ∧ x.1 ≤ 256) fun x y => SelsG x.1 y.1) := by
 refine spec_of_vcD (C := slsC) selrs_fn Tryz.func44 (by kernel_rfl) slsC_cx (fun x hl hx => ?_) hE
 obtain ⟨m, u⟩ := x
 have hm : 1 ≤ m ∧ m ≤ 256 := hx
 cbv
 (repeat' (first|((with_reducible apply And.intro <;> intro h) <;> (first|(with_reducible first|exact (tf h ‹_›).elim|exact (tf ‹_› h).elim)|cbv))|((with_reducible first|apply Cb.mk|apply Lz.mk|apply JoinT.left|(apply AllT.mk;intro x hx));cbv)|((with_reducible refine Ob.mk (fun _ => ?_) ?_);rotate_left 1)|(with_reducible first|refine Mg.mk (Exists.intro ?_ (And.intro ?_ ?_))|rfl|apply Fin.mk|exact True.intro|apply And.intro)))
 all_goals first
  | (((try dsimp only [Shp.D, Shp.Ds, Shp.dflt] at *); simp only [vla, vem, veq, vln] at *; (try dsimp only [Shp.D, Shp.Ds, Shp.dflt, Shp.dflts] at *)) <;> (try simp only [Shp.lims, Shp.lim, IntKind.wrap_u64, IntKind.wrap_u8] at *) <;> omega)
  | skip
 ·with_reducible refine loop_hv [(6, 900, 139, selE)] (rangeN 15 10) [] [900] (fun z b t y => 0 ≤ z 7 ∧ 1 ≤ ((y 900 selE).length : Int) + z 7 ∧ ((y 900 selE).length : Int) + z 7 ≤ m ∧ ∀ s ∈ y 900 selE, SelG 6 (toSel s)) (fun z b t y => (z 7).toNat) (by cbv) (by cbv) ?_ ?_ (fun z1 b1 t1 u1 y1 R1 hP1 hR1 => ?_)
  ·exact EndOk.au
  ·intro zq bq tq yq hUq
   have q7 := hUq.z 7
   have qy900 := hUq.y 900 (selE)
   cbv at q7 qy900
   replace q7 := q7.eq
   replace qy900 := qy900.eq
   simp only [atI, atB, atT, atY, convL_self, vem, veq, ne_eq, cmpI, arI, dvI, shI, SV.den] at q7 qy900
   clear hUq
   try dsimp only [Shp.D, Shp.Ds, Shp.dflt] at *
   try simp only [vla, vem, veq] at *
   rw [← qy900]
   simp only [List.length_nil]
   refine ⟨by omega, by omega, by omega, fun s hs => by cases hs⟩
  obtain ⟨p1, p2, p3, p4⟩ := hP1
  cbv
  (repeat' (first|((with_reducible apply And.intro <;> intro h) <;> (first|(with_reducible first|exact (tf h ‹_›).elim|exact (tf ‹_› h).elim)|cbv))|((with_reducible first|apply Cb.mk|apply Lz.mk|apply JoinT.left|(apply AllT.mk;intro x hx));cbv)|((with_reducible refine Ob.mk (fun _ => ?_) ?_);rotate_left 1)|(with_reducible first|refine Mg.mk (Exists.intro ?_ (And.intro ?_ ?_))|rfl|apply Fin.mk|exact True.intro|apply And.intro)))
  all_goals first | (with_reducible show Goes _ _ _ _; skip) | (clear hR1)
  ·with_reducible refine hR1 _ ?_ (fun zq bq tq yq hUq => ?_)
   ·exact EndOk.au
   have q7 := hUq.z 7
   have qy900 := hUq.y 900 (selE)
   cbv at q7 qy900
   replace q7 := q7.eq
   replace qy900 := qy900.eq
   simp only [atI, atB, atT, atY, convL_self, vem, veq, ne_eq, cmpI, arI, dvI, shI, SV.den] at q7 qy900
   clear hUq hR1
   try dsimp only [Shp.D, Shp.Ds, Shp.dflt] at *
   try simp only [vem, veq, ne_eq, cmpI, arI, dvI, shI, SV.den, elemAt, convL_self] at *
   try dsimp only [Shp.D, Shp.Ds, Shp.dflt, Shp.dflts] at *
   rw [← qy900]
   simp only [List.length_append, List.length_cons, List.length_nil]
   refine ⟨⟨by omega, by omega, by omega, fun s hs => ?_⟩, by omega⟩
   rcases List.mem_append.1 hs with hs | hs
   ·exact p4 s hs
   ·rw [List.mem_singleton] at hs
    subst hs
    exact hx.1
  all_goals first
   | (((try dsimp only [Shp.D, Shp.Ds, Shp.dflt] at *); simp only [vla, vem, veq, vln] at *; (try dsimp only [Shp.D, Shp.Ds, Shp.dflt, Shp.dflts] at *)) <;> (try simp only [Shp.lims, Shp.lim, IntKind.wrap_u64, IntKind.wrap_u8] at *) <;> omega)
   | skip
  all_goals (try dsimp only [Shp.D, Shp.Ds, Shp.dflt] at *); simp only [vla, vem, veq, vln] at *; (try dsimp only [Shp.D, Shp.Ds, Shp.dflt, Shp.dflts] at *)
  all_goals first
   | exact .inr trivial
   | exact .inl trivial
   | exact ⟨by omega, by omega, _, .inr rfl, p4⟩
   | exact ⟨by omega, by omega, _, .inl rfl, p4⟩
 ·with_reducible refine loop_hv [(6, 900, 139, selE)] (rangeN 15 10) [] [900] (fun z b t y => 0 ≤ z 7 ∧ 1 ≤ ((y 900 selE).length : Int) + z 7 ∧ ((y 900 selE).length : Int) + z 7 ≤ m ∧ ∀ s ∈ y 900 selE, SelG 4 (toSel s)) (fun z b t y => (z 7).toNat) (by cbv) (by cbv) ?_ ?_ (fun z1 b1 t1 u1 y1 R1 hP1 hR1 => ?_)
  ·exact EndOk.au
  ·intro zq bq tq yq hUq
   have q7 := hUq.z 7
   have qy900 := hUq.y 900 (selE)
   cbv at q7 qy900
   replace q7 := q7.eq
   replace qy900 := qy900.eq
   simp only [atI, atB, atT, atY, convL_self, vem, veq, ne_eq, cmpI, arI, dvI, shI, SV.den] at q7 qy900
   clear hUq
   try dsimp only [Shp.D, Shp.Ds, Shp.dflt] at *
   try simp only [vla, vem, veq] at *
   rw [← qy900]
   simp only [List.length_nil]
   refine ⟨by omega, by omega, by omega, fun s hs => by cases hs⟩
  obtain ⟨p1, p2, p3, p4⟩ := hP1
  cbv
  (repeat' (first|((with_reducible apply And.intro <;> intro h) <;> (first|(with_reducible first|exact (tf h ‹_›).elim|exact (tf ‹_› h).elim)|cbv))|((with_reducible first|apply Cb.mk|apply Lz.mk|apply JoinT.left|(apply AllT.mk;intro x hx));cbv)|((with_reducible refine Ob.mk (fun _ => ?_) ?_);rotate_left 1)|(with_reducible first|refine Mg.mk (Exists.intro ?_ (And.intro ?_ ?_))|rfl|apply Fin.mk|exact True.intro|apply And.intro)))
  all_goals first | (with_reducible show Goes _ _ _ _; skip) | (clear hR1)
  ·with_reducible refine hR1 _ ?_ (fun zq bq tq yq hUq => ?_)
   ·exact EndOk.au
   have q7 := hUq.z 7
   have qy900 := hUq.y 900 (selE)
   cbv at q7 qy900
   replace q7 := q7.eq
   replace qy900 := qy900.eq
   simp only [atI, atB, atT, atY, convL_self, vem, veq, ne_eq, cmpI, arI, dvI, shI, SV.den] at q7 qy900
   clear hUq hR1
   try dsimp only [Shp.D, Shp.Ds, Shp.dflt] at *
   try simp only [vem, veq, ne_eq, cmpI, arI, dvI, shI, SV.den, elemAt, convL_self] at *
   try dsimp only [Shp.D, Shp.Ds, Shp.dflt, Shp.dflts] at *
   rw [← qy900]
   simp only [List.length_append, List.length_cons, List.length_nil]
   refine ⟨⟨by omega, by omega, by omega, fun s hs => ?_⟩, by omega⟩
   rcases List.mem_append.1 hs with hs | hs
   ·exact p4 s hs
   ·rw [List.mem_singleton] at hs
    subst hs
    exact hx.1
  all_goals first
   | (((try dsimp only [Shp.D, Shp.Ds, Shp.dflt] at *); simp only [vla, vem, veq, vln] at *; (try dsimp only [Shp.D, Shp.Ds, Shp.dflt, Shp.dflts] at *)) <;> (try simp only [Shp.lims, Shp.lim, IntKind.wrap_u64, IntKind.wrap_u8] at *) <;> omega)
   | skip
  all_goals (try dsimp only [Shp.D, Shp.Ds, Shp.dflt] at *); simp only [vla, vem, veq, vln] at *; (try dsimp only [Shp.D, Shp.Ds, Shp.dflt, Shp.dflts] at *)
  all_goals first
   | exact .inr trivial
   | exact .inl trivial
   | exact ⟨by omega, by omega, _, .inr rfl, p4⟩
   | exact ⟨by omega, by omega, _, .inl rfl, p4⟩
end
section
set_option maxHeartbeats 8000000
set_option maxRecDepth 100000
abbrev wordS : Spec := drSpec 74 [] [.int .u64] [] (fun _ => True) wordPost
def dhC_t : SpecT := nd0 42 (lf0 12 (nextS)) (lf0 42 (wordS))
def dhC : Cx := ⟨tt, qt, bt, st, dhC_t, 0, 1000000000000000, fun _ => none, false, CxE.no, []⟩
theorem dhC_si {E : Env} (h : E.ok) : SpecsOk Tryz.prog E (CxE.no) dhC_t (fun _ => none) := ⟨(nd0_ok (lf0_ok (.inl (next_sp h))) (lf0_ok (.inl (word_sp h)))), noI_ok _ _ _⟩
theorem dhC_x {E : Env} (h : E.ok) : CxEOk Tryz.prog E (CxE.no) := CxE.no_ok _ _
theorem dhC_cx (E : Env) (h : E.ok) (h1 : E.lo = 0) (h2 : E.hi = 1000000000000000) : Cx.ok dhC Tryz.prog E := ⟨tt_ok, qt_ok, bt_ok, dhC_si h, h, h1, h2, mixed_ok, dhC_x h⟩
abbrev hdrS : Spec := drSpec 74 [] [hdE] [] (fun _ => True) (fun _ _ => True)
theorem dhd_fn : hasFn Tryz.prog 21 := ⟨_, Tryz.func21, by rfl, by rfl⟩
theorem dhd_sp {E : Env} (hE : E.ok) : SpecOk Tryz.prog E 21 hdrS := by
 refine spec_of_vcD (C := dhC) dhd_fn Tryz.func21 (by kernel_rfl) dhC_cx (fun x hl hx => ?_) hE
 obtain ⟨⟩ := x
 cbv
 (repeat' (first|((with_reducible apply And.intro <;> intro h) <;> (first|(with_reducible first|exact (tf h ‹_›).elim|exact (tf ‹_› h).elim)|cbv))|((with_reducible first|apply Cb.mk|apply Lz.mk|apply JoinT.left|(apply AllT.mk;intro x hx));cbv)|((with_reducible refine Ob.mk (fun _ => ?_) ?_);rotate_left 1)|(with_reducible first|refine Mg.mk (Exists.intro ?_ (And.intro ?_ ?_))|rfl|apply Fin.mk|exact True.intro|apply And.intro)))
 all_goals first|(with_reducible first|show (∃ _, unr _ _ _ _ _ _)|show UnrI _ _ _ _ _|show Goes _ _ _ _|show JoinT _ _ _ _ _ _ _)|((try ((try dsimp only [Shp.D, Shp.Ds, Shp.dflt] at *); simp only [vla, vem, veq, vln] at *; (try dsimp only [Shp.D, Shp.Ds, Shp.dflt, Shp.dflts] at *); first | done | omega | skip)))
abbrev selsS : Spec := drSpec 74 [.int .i64] [.sl selE] [.own 139] (fun x => 1 ≤ x.1 ∧ x.1 ≤ 256) fun x y => SelsG x.1 y.1
def plC_t : SpecT := nd0 44 (nd0 43 (lf0 12 (nextS)) (lf0 43 (propS))) (nd0 45 (lf0 44 (selsS)) (lf0 45 (bytesS)))
def plC : Cx := ⟨tt, qt, bt, st, plC_t, 0, 1000000000000000, fun _ => none, false, CxE.no, []⟩
theorem plC_si {E : Env} (h : E.ok) : SpecsOk Tryz.prog E (CxE.no) plC_t (fun _ => none) := ⟨(nd0_ok (nd0_ok (lf0_ok (.inl (next_sp h))) (lf0_ok (.inl (prop_sp h)))) (nd0_ok (lf0_ok (.inl (selrs_sp h))) (lf0_ok (.inl (bytes_sp h))))), noI_ok _ _ _⟩
theorem plC_x {E : Env} (h : E.ok) : CxEOk Tryz.prog E (CxE.no) := CxE.no_ok _ _
theorem plC_cx (E : Env) (h : E.ok) (h1 : E.lo = 0) (h2 : E.hi = 1000000000000000) : Cx.ok plC Tryz.prog E := ⟨tt_ok, qt_ok, bt_ok, plC_si h, h, h1, h2, mixed_ok, plC_x h⟩
abbrev dplS : Spec := drSpec 74 [.int .i64] [plE] [.sh, .sh, .sh, .sh, .sh, .sh, .sh, .sh, .sh] (fun _ => True) (fun x y => PlB y.1)
theorem plB_i {t : Int} {ps : List PrT} {e1 i1 a1 n1 n3 d1 : Int} {e2 i2 a2 n2 n4 dd : List UInt8} {d2 : List (List UInt8)} {ss : List SelT} (h1 : e2.length ≤ 1000000) (h2 : i2.length ≤ 1000000) (h3 : a2.length ≤ 1000000) (h4 : n2.length ≤ 1000000) (h5 : n4.length ≤ 1000000) (h6 : d2.length ≤ 1000000) : PlB (t, ps, (e1, e2, ()), (i1, i2, ()), (a1, a2, ()), (n1, n2, n3, n4, ()), (d1, d2, ()), ss, dd, ()) := ⟨h1, h2, h3, ⟨h4, h5⟩, h6⟩
theorem dpl_fn : hasFn Tryz.prog 22 := ⟨_, Tryz.func22, by rfl, by rfl⟩
theorem dpl_sp {E : Env} (hE : E.ok) : SpecOk Tryz.prog E 22 dplS := by
 refine spec_of_vcD (C := plC) dpl_fn Tryz.func22 (by kernel_rfl) plC_cx (fun x hl hx => ?_) hE
 obtain ⟨k, ⟨⟩⟩ := x
 cbv
 (repeat' (first|((with_reducible apply And.intro <;> intro h) <;> (first|(with_reducible first|exact (tf h ‹_›).elim|exact (tf ‹_› h).elim)|cbv)) | ((with_reducible show JoinT (fun s K => vc _ (Code.region _ _ true) s K) _ _ _ _ _ _); (with_reducible apply JoinT.mg2); (focus (cbv; (repeat' (first|((with_reducible apply And.intro <;> intro h) <;> (first|(with_reducible first|exact (tf h ‹_›).elim|exact (tf ‹_› h).elim)|cbv))|((with_reducible first|apply Cb.mk|apply Lz.mk|apply JoinT.left|(apply AllT.mk;intro x hx));cbv)|((with_reducible refine Ob.mk (fun _ => ?_) ?_);rotate_left 1)|(with_reducible first|refine Mg.mk (Exists.intro ?_ (And.intro ?_ ?_))|rfl|apply Fin.mk|exact True.intro|apply And.intro))); (all_goals (try (have du : Unit := (); have dv : Unit := (); first | exact Goes.self (Ex2.mk ⟨dv, du, trivial, trivial, rfl⟩) | exact Goes.self (Ex2.mk ⟨x, du, hx, trivial, rfl⟩) | (rename_i xa hxa; exact Goes.self (Ex2.mk ⟨xa, x, hxa, hx, rfl⟩))))); (all_goals (fail_if_success (with_reducible first | show Goes _ _ _ _ | show (∃ _, unr _ _ _ _ _ _)))))))|((with_reducible first|apply Cb.mk|apply Lz.mk|apply JoinT.left|(apply AllT.mk;intro x hx));cbv)|((with_reducible refine Ob.mk (fun _ => ?_) ?_);rotate_left 1)|(with_reducible first|refine Mg.mk (Exists.intro ?_ (And.intro ?_ ?_))|rfl|apply Fin.mk|exact True.intro|apply And.intro)))
 all_goals first|(with_reducible first|show (∃ _, unr _ _ _ _ _ _)|show UnrI _ _ _ _ _|show Goes _ _ _ _|show JoinT _ _ _ _ _ _ _)|((try ((try dsimp only [Shp.D, Shp.Ds, Shp.dflt] at *); simp only [vla, vem, veq, vln] at *; (try dsimp only [Shp.D, Shp.Ds, Shp.dflt, Shp.dflts] at *); first | done | omega | (exact ⟨by decide, by omega, by omega, trivial⟩) | (exact plB_i (by first | (simp only [List.length_nil]; omega) | omega | (simp only [List.length_take, List.length_drop, List.length_cons, List.length_nil]; omega)) (by first | (simp only [List.length_nil]; omega) | omega | (simp only [List.length_take, List.length_drop, List.length_cons, List.length_nil]; omega)) (by first | (simp only [List.length_nil]; omega) | omega | (simp only [List.length_take, List.length_drop, List.length_cons, List.length_nil]; omega)) (by first | (simp only [List.length_nil]; omega) | omega | (simp only [List.length_take, List.length_drop, List.length_cons, List.length_nil]; omega)) (by first | (simp only [List.length_nil]; omega) | omega | (simp only [List.length_take, List.length_drop, List.length_cons, List.length_nil]; omega)) (by first | (simp only [List.length_nil]; omega) | omega | (simp only [List.length_take, List.length_drop, List.length_cons, List.length_nil]; omega))) | skip)))
end
end Go.Proofs.YtkifmppmfkpfbaaGreat.V
