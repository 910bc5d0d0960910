import Derived.Test.YtkifmppmfkpfbaaGreatW16
import Derived.Test.YtkifmppmfkpfbaaGreatW18
import Derived.Test.YtkifmppmfkpfbaaGreatW19
set_option linter.unusedVariables false
set_option linter.unusedSimpArgs false
namespace Go.Proofs.YtkifmppmfkpfbaaGreat.V
open Go.RowKit
section
set_option maxHeartbeats 8000000
set_option maxRecDepth 100000
abbrev trE : Shp := .st [.int .i64, .int .i64, .int .i64]
abbrev TrT : Type := Int × Int × Int × Unit
abbrev trD0 : TrT := (0, 0, 0, ())
abbrev prE : Shp := .st [.int .i64, .int .i64, .sl .byte, .sl trE]
abbrev PrT : Type := Int × Int × List UInt8 × List TrT × Unit
def eqT (a b : TrT) : Bool := a.1 == b.1 && a.2.1 == b.2.1 && a.2.2.1 == b.2.2.1
theorem eqT_no {a b c : Int} {t : TrT} (h : ¬ a = t.1 ∨ ¬ b = t.2.1 ∨ ¬ c = t.2.2.1) : eqT (a, b, c, ()) t = false := by
 simp only [eqT, Bool.and_eq_false_iff, beq_eq_false_iff_ne, ne_eq]
 rcases h with h | h | h
 ·exact .inl (.inl h)
 ·exact .inl (.inr h)
 ·exact .inr h
def hasT (l : List TrT) (t : TrT) : Bool := l.any (eqT t)
theorem anyd {α : Type} (l : List α) (p : α → Bool) (d : α) (k : Nat) (h : k < l.length) : (l.drop k).any p = (p (l.getD k d) || (l.drop (k + 1)).any p) := by
 rw [List.drop_eq_getElem_cons h, List.any_cons, List.getD_eq_getElem?_getD, List.getElem?_eq_getElem h]
 rfl
theorem any_yes {α : Type} {l : List α} {p : α → Bool} (d : α) {k : Nat} (hk : k < l.length) (h : p (l.getD k d) = true) : l.any p = true := by
 rw [List.any_eq_true]
 refine ⟨l[k], List.getElem_mem hk, ?_⟩
 rw [List.getD_eq_getElem?_getD, List.getElem?_eq_getElem hk] at h
 exact h
theorem any_next {α : Type} {l : List α} {p : α → Bool} (d : α) {k : Nat} (hk : k < l.length) (hr : (l.drop k).any p = l.any p) (h : p (l.getD k d) = false) : (l.drop (k + 1)).any p = l.any p := by
 rw [← hr, anyd l p d k hk, h, Bool.false_or]
theorem idx_fn : hasFn Tryz.prog 148 := ⟨_, Tryz.func148, by rfl, by rfl⟩
abbrev idxSp : Spec := fnSpec [.sl trE, trE] [.int .i64] [] (fun _ => True) fun x y => decide (0 ≤ y.1) = hasT x.1 x.2.1
theorem idx_sp {E : Env} (hE : E.ok) : SpecOk Tryz.prog E 148 idxSp := by
 refine spec_of_vc (C := noC) idx_fn Tryz.func148 (by kernel_rfl) noC_cx (fun x hl hx => ?_) hE
 obtain ⟨l, ⟨ta, tb, tc, u1⟩, u2⟩ := x
 have hlen : l.length ≤ 140737488355328 := by simp only [Shp.lims, Shp.lim] at hl; exact hl.1.1
 cbv
 (repeat' (first|((with_reducible apply And.intro <;> intro h) <;> (first|(with_reducible first|exact (tf h ‹_›).elim|exact (tf ‹_› h).elim)|cbv))|((with_reducible first|apply Cb.mk|apply Lz.mk|apply JoinT.left|(apply AllT.mk;intro x hx));cbv)|((with_reducible refine Ob.mk (fun _ => ?_) ?_);rotate_left 1)|(with_reducible first|refine Mg.mk (Exists.intro ?_ (And.intro ?_ ?_))|rfl|apply Fin.mk|exact True.intro|apply And.intro)))
 with_reducible refine loop_hv [] (5 :: rangeN 9 10) [] [] (fun z b t y => 0 ≤ z 8 ∧ z 8 ≤ (l.length : Int) ∧ (l.drop (z 8).toNat).any (eqT (ta, tb, tc, ())) = l.any (eqT (ta, tb, tc, ()))) (fun z b t y => ((l.length : Int) - z 8).toNat) (by cbv) (by cbv) ?_ ?_ (fun z1 b1 t1 u1 y1 R1 hP1 hR1 => ?_)
 ·exact EndOk.au
 ·intro zq bq tq yq hUq
  have q8 := hUq.z 8
  cbv at q8
  replace q8 := q8.eq
  simp only [atI, atB, atT, atY, convL_self, vem, veq, ne_eq, cmpI, arI, dvI, shI, SV.den] at q8
  clear hUq
  try dsimp only [Shp.D, Shp.Ds, Shp.dflt] at *
  try simp only [vla, vem, veq] at *
  rw [← q8]
  exact ⟨by omega, by omega, rfl⟩
 obtain ⟨p1, p2, p3⟩ := hP1
 cbv
 (repeat' (first|((with_reducible apply And.intro <;> intro h) <;> (first|(with_reducible first|exact (tf h ‹_›).elim|exact (tf ‹_› h).elim)|cbv))|((with_reducible first|apply Cb.mk|apply Lz.mk|apply JoinT.left|(apply AllT.mk;intro x hx));cbv)|((with_reducible refine Ob.mk (fun _ => ?_) ?_);rotate_left 1)|(with_reducible first|refine Mg.mk (Exists.intro ?_ (And.intro ?_ ?_))|rfl|apply Fin.mk|exact True.intro|apply And.intro)))
 all_goals first | (with_reducible show Goes _ _ _ _; skip) | (clear hR1)
 all_goals first|(with_reducible first|show (∃ _, unr _ _ _ _ _ _)|show UnrI _ _ _ _ _|show Goes _ _ _ _|show JoinT _ _ _ _ _ _ _)|(((try dsimp only [Shp.D, Shp.Ds, Shp.dflt] at *); simp only [vla, vem, veq, vln] at *; (try dsimp only [Shp.D, Shp.Ds, Shp.dflt, Shp.dflts] at *); first | done | omega | (rw [List.drop_eq_nil_of_le (by omega)] at p3; unfold hasT; rw [← p3]; rfl) | (unfold hasT; rw [any_yes trD0 (k := (z1 8).toNat) (by omega) (by simp only [eqT, Bool.and_eq_true, beq_iff_eq]; exact ⟨⟨h.1, h.2.1⟩, h.2.2⟩)]; exact decide_eq_true p1)))
 with_reducible refine hR1 _ ?_ (fun zq bq tq yq hUq => ?_)
 ·exact EndOk.au
 have q8 := hUq.z 8
 cbv at q8
 replace q8 := q8.eq
 simp only [atI, atB, atT, atY, convL_self, vem, veq, ne_eq, cmpI, arI, dvI, shI, SV.den] at q8
 clear hUq hR1
 try dsimp only [Shp.D, Shp.Ds, Shp.dflt] at *
 try simp only [vem, veq, ne_eq, cmpI, arI, dvI, shI, SV.den, elemAt, convL_self] at *
 try dsimp only [Shp.D, Shp.Ds, Shp.dflt, Shp.dflts] at *
 refine ⟨⟨by omega, by omega, ?_⟩, by omega⟩
 rw [show (zq 8).toNat = (z1 8).toNat + 1 by omega]
 exact any_next trD0 (by omega) p3 (eqT_no h)
abbrev hasTFn : Spec := fnFn [.sl trE, trE] [.bool] (fun _ => True) fun x => (hasT x.1 x.2.1, ())
def conC_t : SpecT := lf0 148 (idxSp)
def conC : Cx := ⟨tt, qt, bt, st, conC_t, 0, 1000000000000000, fun _ => none, false, CxE.no, []⟩
theorem conC_si {E : Env} (h : E.ok) : SpecsOk Tryz.prog E (CxE.no) conC_t (fun _ => none) := ⟨(lf0_ok (.inl (idx_sp h))), noI_ok _ _ _⟩
theorem conC_x {E : Env} (h : E.ok) : CxEOk Tryz.prog E (CxE.no) := CxE.no_ok _ _
theorem conC_cx (E : Env) (h : E.ok) (h1 : E.lo = 0) (h2 : E.hi = 1000000000000000) : Cx.ok conC Tryz.prog E := ⟨tt_ok, qt_ok, bt_ok, conC_si h, h, h1, h2, mixed_ok, conC_x h⟩
theorem con_fn : hasFn Tryz.prog 139 := ⟨_, Tryz.func139, by rfl, by rfl⟩
theorem con_sp0 {E : Env} (hE : E.ok) : SpecOk Tryz.prog E 139 (fnSpec [.sl trE, trE] [.bool] [] (fun _ => True) fun x y => y.1 = hasT x.1 x.2.1) := by
 refine spec_of_vc (C := conC) con_fn Tryz.func139 (by kernel_rfl) conC_cx (fun x hl hx => ?_) hE
 obtain ⟨l, ⟨ta, tb, tc, u1⟩, u2⟩ := x
 cbv
 (repeat' (first|((with_reducible apply And.intro <;> intro h) <;> (first|(with_reducible first|exact (tf h ‹_›).elim|exact (tf ‹_› h).elim)|cbv))|((with_reducible first|apply Cb.mk|apply Lz.mk|apply JoinT.left|(apply AllT.mk;intro x hx));cbv)|((with_reducible refine Ob.mk (fun _ => ?_) ?_);rotate_left 1)|(with_reducible first|refine Mg.mk (Exists.intro ?_ (And.intro ?_ ?_))|rfl|apply Fin.mk|exact True.intro|apply And.intro)))
 all_goals first|(with_reducible first|show (∃ _, unr _ _ _ _ _ _)|show UnrI _ _ _ _ _|show Goes _ _ _ _|show JoinT _ _ _ _ _ _ _)|(((try dsimp only [Shp.D, Shp.Ds, Shp.dflt] at *); simp only [vla, vem, veq, vln] at *; (try dsimp only [Shp.D, Shp.Ds, Shp.dflt, Shp.dflts] at *); first | done | (exact hx.1)))
theorem con_sp {E : Env} (hE : E.ok) : SpecOk Tryz.prog E 139 hasTFn := fnFn_of (con_sp0 hE) fun (x : Shp.Ds [.sl trE, trE]) (y : Shp.Ds [.bool]) h => by rw [← h]
structure PropG (pr : Int) (p : PrT) (n : Int) : Prop where
 num : p.1 = n
 prot : p.2.1 = pr
 spi : p.2.2.1.length = if pr = 1 then 0 else 4
 ne : 1 ≤ p.2.2.2.1.length
 le : p.2.2.2.1.length ≤ 6
 ty : ∀ t ∈ p.2.2.2.1, 1 ≤ t.1 ∧ t.1 ≤ 3
 id : ∀ t ∈ p.2.2.2.1, 0 ≤ t.2.1 ∧ t.2.1 ≤ 1024
 key : ∀ t ∈ p.2.2.2.1, t.2.2.1 = 0 ∨ t.2.2.1 = 256
 nd : p.2.2.2.1.Nodup
structure PropsG (prot : Int) (l : List PrT) : Prop where
 ok : ∀ i, i < l.length → PropG prot (l.getD i (0, 0, [], [], ())) ((i : Int) + 1)
abbrev nextS : Spec := drSpec 74 [.int .i64] [.int .i64] [] nextPre nextPost
abbrev bytesS : Spec := drSpec 74 [.int .i64] [.sl .byte] [.own 5] (fun x => x.1 ≤ 1048576) (fun x y => (y.1.length : Int) = max 0 x.1)
def kyX : CxE := ⟨0, fun _ => False, fun t => match nBeq t 135 with | true => some trE | false => none, fun _ _ _ _ _ _ _ => False, false⟩
theorem ky_tr : KyOk Tryz.prog 135 trE := by
 refine ky_int3 (T := tt) (K := et) tt_ok et_ok (a := 3) (b := 3) (c := 3) rfl rfl rfl rfl ?_ ?_
 ·intro x y z p hp
  rcases List.mem_cons.1 hp with rfl | hp
  ·exact ⟨_, rfl, _, rfl⟩
  ·rcases List.mem_cons.1 hp with rfl | hp
   ·exact ⟨_, rfl, _, rfl⟩
   ·rw [List.mem_singleton] at hp
    subst hp
    exact ⟨_, rfl, _, rfl⟩
 ·intro x y z x' y' z'
  exact ⟨_, rfl, by simp only [den_mkAnd, den_mkCmp, bden_c, Bool.and_true]; rfl⟩
theorem kyX_ok {E : Env} (hE : E.ok) : CxEOk Tryz.prog E kyX := by
 refine ⟨fun t e h => ?_, fun l lo hi id args s K _ _ h => h.elim⟩
 unfold kyX at h
 simp only at h
 split at h
 ·rename_i hb
  cases h
  rw [nBeq_eq hb]
  exact ky_tr
 ·cases h
def prC_t : SpecT := nd0 45 (lf0 12 (nextS)) (lf0 45 (bytesS))
def prC : Cx := ⟨tt, qt, bt, st, prC_t, 0, 1000000000000000, fun _ => none, false, kyX, []⟩
theorem prC_si {E : Env} (h : E.ok) : SpecsOk Tryz.prog E (kyX) prC_t (fun _ => none) := ⟨(nd0_ok (lf0_ok (.inl (next_sp h))) (lf0_ok (.inl (bytes_sp h)))), noI_ok _ _ _⟩
theorem prC_x {E : Env} (h : E.ok) : CxEOk Tryz.prog E (kyX) := kyX_ok h
theorem prC_cx (E : Env) (h : E.ok) (h1 : E.lo = 0) (h2 : E.hi = 1000000000000000) : Cx.ok prC Tryz.prog E := ⟨tt_ok, qt_ok, bt_ok, prC_si h, h, h1, h2, mixed_ok, prC_x h⟩
abbrev mpE : Shp := .st [trE, .bool]
structure TrG (l : List TrT) : Prop where
 ty : ∀ t ∈ l, 1 ≤ t.1 ∧ t.1 ≤ 3
 id : ∀ t ∈ l, 0 ≤ t.2.1 ∧ t.2.1 ≤ 1024
 key : ∀ t ∈ l, t.2.2.1 = 0 ∨ t.2.2.1 = 256
 nd : l.Nodup
structure MpG (m : List (TrT × Bool × Unit)) (l : List TrT) : Prop where
 val : ∀ p ∈ m, p.2.1 = true
 keys : m.map (·.1) = l
abbrev W64 (v : Int) : Int := (v + 9223372036854775808) % 18446744073709551616 - 9223372036854775808
theorem eqD_tr {a b : TrT} : Shp.eqD trE a b = true ↔ a = b := by
 obtain ⟨a1, a2, a3, u⟩ := a
 obtain ⟨b1, b2, b3, u'⟩ := b
 simp only [Shp.eqD, Shp.eqDs, intEq, Bool.and_true, Bool.and_eq_true, beq_iff_eq, Prod.mk.injEq, and_true]
theorem lookO_mem {m : List (TrT × Bool × Unit)} {t : TrT} {y : Bool} (h : lookO trE .bool m t = some y) : ∃ p ∈ m, p.2.1 = y ∧ p.1 = t := by
 induction m with
 | nil => cases h
 | cons p m ih =>
   unfold lookO at h
   cases hb : Shp.eqD trE p.1 t with
   | true =>
     rw [hb] at h
     simp only [Option.some.injEq] at h
     exact ⟨p, List.mem_cons_self, h, eqD_tr.1 hb⟩
   | false =>
     rw [hb] at h
     obtain ⟨q, h1, h2⟩ := ih h
     exact ⟨q, List.mem_cons_of_mem _ h1, h2⟩
theorem lookO_ex {m : List (TrT × Bool × Unit)} {p : TrT × Bool × Unit} (h : p ∈ m) : (lookO trE .bool m p.1).isSome = true := by
 induction m with
 | nil => cases h
 | cons q m ih =>
   unfold lookO
   cases hb : Shp.eqD trE q.1 p.1 with
   | true => rfl
   | false =>
     rcases List.mem_cons.1 h with rfl | h
     ·rw [eqD_tr.2 rfl] at hb; cases hb
     ·exact ih h
theorem tp_no {m : List (TrT × Bool × Unit)} {l : List TrT} {t : TrT} (hm : MpG m l) (h : (!lookD trE .bool m t false) = true) : hasD trE .bool m t = false := by
 unfold lookD at h
 unfold hasD
 cases ho : lookO trE .bool m t with
 | none => rfl
 | some y =>
   obtain ⟨p, h1, h2, h3⟩ := lookO_mem ho
   rw [ho] at h
   rw [hm.val p h1] at h2
   subst h2
   cases h
theorem tp_new {m : List (TrT × Bool × Unit)} {l : List TrT} {t : TrT} (hm : MpG m l) (h : hasD trE .bool m t = false) : t ∉ l := by
 intro ht
 rw [← hm.keys] at ht
 obtain ⟨p, hp, rfl⟩ := List.mem_map.1 ht
 have := lookO_ex hp
 unfold hasD at h
 rw [this] at h
 cases h
theorem tp_skip {m mq : List (TrT × Bool × Unit)} {l lq : List TrT} {t : TrT} {z zq : Int} (hz : z > 0) (r5 : (l.length : Int) + z ≤ 6) (r7 : TrG l) (r8 : MpG m l) (h : (!lookD trE .bool m t false) = false) (q : W64 (z - 1) = zq) (qy : l = lq) (qm : m = mq) :
    0 ≤ zq ∧ (lq.length : Int) + zq ≤ 6 ∧ 1 ≤ (lq.length : Int) + zq ∧ TrG lq ∧ MpG mq lq ∧ zq.toNat < z.toNat := by
 subst qy qm
 have e : zq = z - 1 := by rw [← q]; unfold W64; omega
 have hl : 1 ≤ l.length := by
  unfold lookD at h
  cases ho : lookO trE .bool m t with
  | none => rw [ho] at h; cases h
  | some y =>
    obtain ⟨p, h1, h2, h3⟩ := lookO_mem ho
    have : p.1 ∈ l := by rw [← r8.keys]; exact List.mem_map.2 ⟨p, h1, rfl⟩
    exact List.length_pos_of_mem this
 exact ⟨by omega, by omega, by omega, r7, r8, by omega⟩
structure TrOk (t : TrT) : Prop where
 ty : 1 ≤ t.1 ∧ t.1 ≤ 3
 id : 0 ≤ t.2.1 ∧ t.2.1 ≤ 1024
 key : t.2.2.1 = 0 ∨ t.2.2.1 = 256
theorem tp_push {m mq : List (TrT × Bool × Unit)} {l lq : List TrT} {t : TrT} {z zq : Int} (hz : z > 0) (r5 : (l.length : Int) + z ≤ 6) (r7 : TrG l) (r8 : MpG m l) (h : (!lookD trE .bool m t false) = true) (ht : TrOk t) (q : W64 (z - 1) = zq) (qy : l ++ [t] = lq) (qm : m ++ [(t, true, ())] = mq) :
    0 ≤ zq ∧ (lq.length : Int) + zq ≤ 6 ∧ 1 ≤ (lq.length : Int) + zq ∧ TrG lq ∧ MpG mq lq ∧ zq.toNat < z.toNat := by
 subst qy qm
 have e : zq = z - 1 := by rw [← q]; unfold W64; omega
 have hn := tp_new r8 (tp_no r8 h)
 have hlen : (l ++ [t]).length = l.length + 1 := by simp
 have mem : ∀ {x : TrT}, x ∈ l ++ [t] → x ∈ l ∨ x = t := fun hx => by simpa using hx
 refine ⟨by omega, by omega, by omega, ⟨fun x hx => ?_, fun x hx => ?_, fun x hx => ?_, ?_⟩, ⟨fun x hx => ?_, ?_⟩, by omega⟩
 ·rcases mem hx with hx | rfl
  ·exact r7.ty x hx
  ·exact ht.ty
 ·rcases mem hx with hx | rfl
  ·exact r7.id x hx
  ·exact ht.id
 ·rcases mem hx with hx | rfl
  ·exact r7.key x hx
  ·exact ht.key
 ·rw [List.nodup_append]
  exact ⟨r7.nd, by simp, fun a ha b hb => by rw [List.mem_singleton] at hb; subst hb; intro he; subst he; exact hn ha⟩
 ·rcases List.mem_append.1 hx with hx | hx
  ·exact r8.val x hx
  ·rw [List.mem_singleton] at hx; rw [hx]
 ·rw [List.map_append, r8.keys]; rfl
theorem tp_t {v w k : Int} {P Q : Prop} (hv : (0 ≤ v ∧ v < 3) ∧ P) (hw : (0 ≤ w ∧ w < 4) ∧ Q) (hk : k = 0 ∨ k = 256) : TrOk (W64 (1 + v), selI [28, 31, 1024, 5] w, k, ()) := by
 refine ⟨?_, ?_, hk⟩
 ·show 1 ≤ W64 (1 + v) ∧ W64 (1 + v) ≤ 3
  unfold W64; omega
 ·show 0 ≤ selI [28, 31, 1024, 5] w ∧ selI [28, 31, 1024, 5] w ≤ 1024
  obtain ⟨w0, w1⟩ := hw.1
  rcases (by omega : w = 0 ∨ w = 1 ∨ w = 2 ∨ w = 3) with rfl | rfl | rfl | rfl <;> exact ⟨by decide, by decide⟩
theorem tp_out {pr n q most z zq k : Int} {l lq : List PrT} {spi : List UInt8} {tr : List TrT} (p2 : (l.length : Int) + z ≤ most) (hm : most ≤ 100) (hz : z > 0) (p4 : PropsG pr l) (r1 : n = (l.length : Int) + 1) (r2 : q = pr) (r3 : spi.length = if pr = 1 then 0 else 4) (r5 : (tr.length : Int) + k ≤ 6) (r4 : 0 ≤ k) (r6 : 1 ≤ (tr.length : Int) + k) (hk : ¬ k > 0) (r7 : TrG tr)
    (q8 : W64 (z - 1) = zq) (qy : l ++ [(n, q, spi, tr, ())] = lq) : (0 ≤ zq ∧ (lq.length : Int) + zq ≤ most ∧ 1 ≤ (lq.length : Int) + zq ∧ PropsG pr lq) ∧ zq.toNat < z.toNat := by
 subst qy
 have e : zq = z - 1 := by rw [← q8]; unfold W64; omega
 have hlen : (l ++ [(n, q, spi, tr, ())]).length = l.length + 1 := by simp
 refine ⟨⟨by omega, by omega, by omega, ⟨fun i hi => ?_⟩⟩, by omega⟩
 rw [hlen] at hi
 by_cases hi2 : i < l.length
 ·have := p4.ok i hi2
  rw [List.getD_eq_getElem?_getD] at this ⊢
  rw [List.getElem?_append_left hi2]
  exact this
 ·have e2 : i = l.length := by omega
  subst e2
  rw [List.getD_eq_getElem?_getD, List.getElem?_append_right (by omega), Nat.sub_self]
  exact ⟨r1, r2, r3, by show 1 ≤ tr.length; omega, by show tr.length ≤ 6; omega, r7.ty, r7.id, r7.key, r7.nd⟩
theorem props_nil {pr : Int} : PropsG pr [] := ⟨fun i hi => absurd hi (by simp)⟩
theorem tr_nil : TrG [] := ⟨fun t ht => (by cases ht), fun t ht => (by cases ht), fun t ht => (by cases ht), List.nodup_nil⟩
theorem mp_nil : MpG [] [] := ⟨fun t ht => (by cases ht), rfl⟩
abbrev propS : Spec := drSpec 74 [.int .i64, .int .i64] [.sl prE] [.sh] (fun x => 1 ≤ x.1 ∧ x.1 ≤ 100) (fun x y => PropsG x.2.1 y.1 ∧ 1 ≤ y.1.length ∧ (y.1.length : Int) ≤ x.1)
theorem prop_fn : hasFn Tryz.prog 43 := ⟨_, Tryz.func43, by rfl, by rfl⟩
theorem prop_sp {E : Env} (hE : E.ok) : SpecOk Tryz.prog E 43 propS := by
 refine spec_of_vcD (C := prC) prop_fn Tryz.func43 (by kernel_rfl) prC_cx (fun x hl hx => ?_) hE
 obtain ⟨most, pr, u⟩ := x
 obtain ⟨hx1, hx2⟩ := hx
 cbv
 (repeat' (first|((with_reducible apply And.intro <;> intro h) <;> (first|(with_reducible first|exact (tf h ‹_›).elim|exact (tf ‹_› h).elim)|cbv))|((with_reducible first|apply Cb.mk|apply Lz.mk|apply JoinT.left|(apply AllT.mk;intro x hx));cbv)|((with_reducible refine Ob.mk (fun _ => ?_) ?_);rotate_left 1)|(with_reducible first|refine Mg.mk (Exists.intro ?_ (And.intro ?_ ?_))|rfl|apply Fin.mk|exact True.intro|apply And.intro)))
 all_goals first|(with_reducible first|show (∃ _, unr _ _ _ _ _ _)|show UnrI _ _ _ _ _|show Goes _ _ _ _|show JoinT _ _ _ _ _ _ _)|((try ((try dsimp only [Shp.D, Shp.Ds, Shp.dflt] at *); simp only [vla, vem, veq, vln] at *; (try dsimp only [Shp.D, Shp.Ds, Shp.dflt, Shp.dflts] at *); first | done | omega | skip)))
 with_reducible refine loop_hv [(7, 900001, 132, prE)] (9 :: 10 :: 11 :: 12 :: rangeN 17 57) [] [900001] (fun z b t y => 0 ≤ z 8 ∧ ((y 900001 prE).length : Int) + z 8 ≤ most ∧ 1 ≤ ((y 900001 prE).length : Int) + z 8 ∧ PropsG pr (y 900001 prE)) (fun z b t y => (z 8).toNat) (by cbv) (by cbv) ?_ ?_ (fun z1 b1 t1 u1 y1 R1 hP1 hR1 => ?_)
 ·exact EndOk.au
 ·intro zq bq tq yq hUq
  have q8 := hUq.z 8
  have qy900001 := hUq.y 900001 (prE)
  cbv at q8 qy900001
  replace q8 := q8.eq
  replace qy900001 := qy900001.eq
  simp only [atI, atB, atT, atY, convL_self, vem, veq, ne_eq, cmpI, arI, dvI, shI, SV.den] at q8 qy900001
  clear hUq
  try dsimp only [Shp.D, Shp.Ds, Shp.dflt] at *
  try simp only [vla, vem, veq] at *
  rw [← q8, ← qy900001]
  exact ⟨by omega, by simp only [List.length_nil]; omega, by simp only [List.length_nil]; omega, props_nil⟩
 obtain ⟨p1, p2, p3, p4⟩ := hP1
 cbv
 (repeat' (first|((with_reducible apply And.intro <;> intro h) <;> (first|(with_reducible first|exact (tf h ‹_›).elim|exact (tf ‹_› h).elim)|cbv))|((with_reducible first|apply Cb.mk|apply Lz.mk|apply JoinT.left|(apply AllT.mk;intro x hx));cbv)|((with_reducible refine Ob.mk (fun _ => ?_) ?_);rotate_left 1)|(with_reducible first|refine Mg.mk (Exists.intro ?_ (And.intro ?_ ?_))|rfl|apply Fin.mk|exact True.intro|apply And.intro)))
 all_goals first|(with_reducible first|show (∃ _, unr _ _ _ _ _ _)|show UnrI _ _ _ _ _|show Goes _ _ _ _|show JoinT _ _ _ _ _ _ _)|((try ((try dsimp only [Shp.D, Shp.Ds, Shp.dflt] at *); simp only [vla, vem, veq, vln] at *; (try dsimp only [Shp.D, Shp.Ds, Shp.dflt, Shp.dflts] at *); first | done | omega | skip)))
 ·with_reducible refine loop_hv [(57632898, 900003, 5, .byte), (57632899, 900002, 135, trE)] (12 :: 29 :: rangeN 35 34) [900450] [900002, 900003, 900962] (fun z b t y => z 57632896 = ((y1 900001 prE).length : Int) + 1 ∧ z 57632897 = pr ∧ ((y 900003 .byte).length = if pr = 1 then 0 else 4) ∧ 0 ≤ z 11 ∧ ((y 900002 trE).length : Int) + z 11 ≤ 6 ∧ 1 ≤ ((y 900002 trE).length : Int) + z 11 ∧ TrG (y 900002 trE) ∧ MpG (y 900962 mpE) (y 900002 trE)) (fun z b t y => (z 11).toNat) (by cbv) (by cbv) ?_ ?_ (fun z2 b2 t2 u2 y2 R2 hP2 hR2 => ?_)
  ·exact EndOk.au
  ·intro zq bq tq yq hUq
   have q11 := hUq.z 11
   have q57632896 := hUq.z 57632896
   have q57632897 := hUq.z 57632897
   have qy900003 := hUq.y 900003 (.byte)
   have qy900002 := hUq.y 900002 (trE)
   have qy900962 := hUq.y 900962 (mpE)
   cbv at q11 q57632896 q57632897 qy900003 qy900002 qy900962
   replace q11 := q11.eq
   replace q57632896 := q57632896.eq
   replace q57632897 := q57632897.eq
   replace qy900003 := qy900003.eq
   replace qy900002 := qy900002.eq
   replace qy900962 := qy900962.eq
   simp only [atI, atB, atT, atY, convL_self, vem, veq, ne_eq, cmpI, arI, dvI, shI, SV.den] at q11 q57632896 q57632897 qy900003 qy900002 qy900962
   clear hUq
   try dsimp only [Shp.D, Shp.Ds, Shp.dflt] at *
   try simp only [vla, vem, veq] at *
   rw [← q11, ← q57632896, ← q57632897, ← qy900003, ← qy900002, ← qy900962]
   exact ⟨by omega, rfl, by first | (rw [if_neg h]; omega) | (rw [if_pos h]; rfl) | (rw [if_pos (by omega)]; rfl), by omega, by simp only [List.length_nil]; omega, by simp only [List.length_nil]; omega, tr_nil, mp_nil⟩
  obtain ⟨r1, r2, r3, r4, r5, r6, r7, r8⟩ := hP2
  cbv
  (repeat' (first|((with_reducible apply And.intro <;> intro h) <;> (first|(with_reducible first|exact (tf h ‹_›).elim|exact (tf ‹_› h).elim)|cbv))|((with_reducible first|apply Cb.mk|apply Lz.mk|apply JoinT.left|(apply AllT.mk;intro x hx));cbv)|((with_reducible refine Ob.mk (fun _ => ?_) ?_);rotate_left 1)|(with_reducible first|refine Mg.mk (Exists.intro ?_ (And.intro ?_ ?_))|rfl|apply Fin.mk|exact True.intro|apply And.intro)))
  all_goals first|(with_reducible first|show (∃ _, unr _ _ _ _ _ _)|show UnrI _ _ _ _ _|show Goes _ _ _ _|show JoinT _ _ _ _ _ _ _)|((try ((try dsimp only [Shp.D, Shp.Ds, Shp.dflt] at *); simp only [vla, vem, veq, vln] at *; (try dsimp only [Shp.D, Shp.Ds, Shp.dflt, Shp.dflts] at *); first | done | omega | (exact tp_no r8 h) | skip)))
  ·with_reducible refine hR2 _ ?_ (fun zq bq tq yq hUq => ?_)
   ·exact EndOk.au
   have q11 := hUq.z 11
   have q57632896 := hUq.z 57632896
   have q57632897 := hUq.z 57632897
   have qy900003 := hUq.y 900003 (.byte)
   have qy900002 := hUq.y 900002 (trE)
   have qy900962 := hUq.y 900962 (mpE)
   cbv at q11 q57632896 q57632897 qy900003 qy900002 qy900962
   replace q11 := q11.eq
   replace q57632896 := q57632896.eq
   replace q57632897 := q57632897.eq
   replace qy900003 := qy900003.eq
   replace qy900002 := qy900002.eq
   replace qy900962 := qy900962.eq
   simp only [atI, atB, atT, atY, convL_self, vem, veq, ne_eq, cmpI, arI, dvI, shI, SV.den] at q11 q57632896 q57632897 qy900003 qy900002 qy900962
   clear hUq hR2
   try dsimp only [Shp.D, Shp.Ds, Shp.dflt] at *
   try simp only [vem, veq, ne_eq, cmpI, arI, dvI, shI, SV.den, elemAt, convL_self] at *
   try dsimp only [Shp.D, Shp.Ds, Shp.dflt, Shp.dflts] at *
   have hg := tp_push (by assumption) r5 r7 r8 h (tp_t (by assumption) (by assumption) (.inr rfl)) q11 qy900002 qy900962
   exact ⟨⟨by rw [← q57632896]; exact r1, by rw [← q57632897]; exact r2, by rw [← qy900003]; exact r3, hg.1, hg.2.1, hg.2.2.1, hg.2.2.2.1, hg.2.2.2.2.1⟩, hg.2.2.2.2.2⟩
  ·with_reducible refine hR2 _ ?_ (fun zq bq tq yq hUq => ?_)
   ·exact EndOk.au
   have q11 := hUq.z 11
   have q57632896 := hUq.z 57632896
   have q57632897 := hUq.z 57632897
   have qy900003 := hUq.y 900003 (.byte)
   have qy900002 := hUq.y 900002 (trE)
   have qy900962 := hUq.y 900962 (mpE)
   cbv at q11 q57632896 q57632897 qy900003 qy900002 qy900962
   replace q11 := q11.eq
   replace q57632896 := q57632896.eq
   replace q57632897 := q57632897.eq
   replace qy900003 := qy900003.eq
   replace qy900002 := qy900002.eq
   replace qy900962 := qy900962.eq
   simp only [atI, atB, atT, atY, convL_self, vem, veq, ne_eq, cmpI, arI, dvI, shI, SV.den] at q11 q57632896 q57632897 qy900003 qy900002 qy900962
   clear hUq hR2
   try dsimp only [Shp.D, Shp.Ds, Shp.dflt] at *
   try simp only [vem, veq, ne_eq, cmpI, arI, dvI, shI, SV.den, elemAt, convL_self] at *
   try dsimp only [Shp.D, Shp.Ds, Shp.dflt, Shp.dflts] at *
   have hg := tp_skip (by assumption) r5 r7 r8 h q11 qy900002 qy900962
   exact ⟨⟨by rw [← q57632896]; exact r1, by rw [← q57632897]; exact r2, by rw [← qy900003]; exact r3, hg.1, hg.2.1, hg.2.2.1, hg.2.2.2.1, hg.2.2.2.2.1⟩, hg.2.2.2.2.2⟩
  ·with_reducible refine hR2 _ ?_ (fun zq bq tq yq hUq => ?_)
   ·exact EndOk.au
   have q11 := hUq.z 11
   have q57632896 := hUq.z 57632896
   have q57632897 := hUq.z 57632897
   have qy900003 := hUq.y 900003 (.byte)
   have qy900002 := hUq.y 900002 (trE)
   have qy900962 := hUq.y 900962 (mpE)
   cbv at q11 q57632896 q57632897 qy900003 qy900002 qy900962
   replace q11 := q11.eq
   replace q57632896 := q57632896.eq
   replace q57632897 := q57632897.eq
   replace qy900003 := qy900003.eq
   replace qy900002 := qy900002.eq
   replace qy900962 := qy900962.eq
   simp only [atI, atB, atT, atY, convL_self, vem, veq, ne_eq, cmpI, arI, dvI, shI, SV.den] at q11 q57632896 q57632897 qy900003 qy900002 qy900962
   clear hUq hR2
   try dsimp only [Shp.D, Shp.Ds, Shp.dflt] at *
   try simp only [vem, veq, ne_eq, cmpI, arI, dvI, shI, SV.den, elemAt, convL_self] at *
   try dsimp only [Shp.D, Shp.Ds, Shp.dflt, Shp.dflts] at *
   have hg := tp_push (by assumption) r5 r7 r8 h (tp_t (by assumption) (by assumption) (.inl rfl)) q11 qy900002 qy900962
   exact ⟨⟨by rw [← q57632896]; exact r1, by rw [← q57632897]; exact r2, by rw [← qy900003]; exact r3, hg.1, hg.2.1, hg.2.2.1, hg.2.2.2.1, hg.2.2.2.2.1⟩, hg.2.2.2.2.2⟩
  ·with_reducible refine hR2 _ ?_ (fun zq bq tq yq hUq => ?_)
   ·exact EndOk.au
   have q11 := hUq.z 11
   have q57632896 := hUq.z 57632896
   have q57632897 := hUq.z 57632897
   have qy900003 := hUq.y 900003 (.byte)
   have qy900002 := hUq.y 900002 (trE)
   have qy900962 := hUq.y 900962 (mpE)
   cbv at q11 q57632896 q57632897 qy900003 qy900002 qy900962
   replace q11 := q11.eq
   replace q57632896 := q57632896.eq
   replace q57632897 := q57632897.eq
   replace qy900003 := qy900003.eq
   replace qy900002 := qy900002.eq
   replace qy900962 := qy900962.eq
   simp only [atI, atB, atT, atY, convL_self, vem, veq, ne_eq, cmpI, arI, dvI, shI, SV.den] at q11 q57632896 q57632897 qy900003 qy900002 qy900962
   clear hUq hR2
   try dsimp only [Shp.D, Shp.Ds, Shp.dflt] at *
   try simp only [vem, veq, ne_eq, cmpI, arI, dvI, shI, SV.den, elemAt, convL_self] at *
   try dsimp only [Shp.D, Shp.Ds, Shp.dflt, Shp.dflts] at *
   have hg := tp_skip (by assumption) r5 r7 r8 h q11 qy900002 qy900962
   exact ⟨⟨by rw [← q57632896]; exact r1, by rw [← q57632897]; exact r2, by rw [← qy900003]; exact r3, hg.1, hg.2.1, hg.2.2.1, hg.2.2.2.1, hg.2.2.2.2.1⟩, hg.2.2.2.2.2⟩
  ·with_reducible refine hR2 _ ?_ (fun zq bq tq yq hUq => ?_)
   ·exact EndOk.au
   have q11 := hUq.z 11
   have q57632896 := hUq.z 57632896
   have q57632897 := hUq.z 57632897
   have qy900003 := hUq.y 900003 (.byte)
   have qy900002 := hUq.y 900002 (trE)
   have qy900962 := hUq.y 900962 (mpE)
   cbv at q11 q57632896 q57632897 qy900003 qy900002 qy900962
   replace q11 := q11.eq
   replace q57632896 := q57632896.eq
   replace q57632897 := q57632897.eq
   replace qy900003 := qy900003.eq
   replace qy900002 := qy900002.eq
   replace qy900962 := qy900962.eq
   simp only [atI, atB, atT, atY, convL_self, vem, veq, ne_eq, cmpI, arI, dvI, shI, SV.den] at q11 q57632896 q57632897 qy900003 qy900002 qy900962
   clear hUq hR2
   try dsimp only [Shp.D, Shp.Ds, Shp.dflt] at *
   try simp only [vem, veq, ne_eq, cmpI, arI, dvI, shI, SV.den, elemAt, convL_self] at *
   try dsimp only [Shp.D, Shp.Ds, Shp.dflt, Shp.dflts] at *
   have hg := tp_push (by assumption) r5 r7 r8 h (tp_t (by assumption) (by assumption) (.inl rfl)) q11 qy900002 qy900962
   exact ⟨⟨by rw [← q57632896]; exact r1, by rw [← q57632897]; exact r2, by rw [← qy900003]; exact r3, hg.1, hg.2.1, hg.2.2.1, hg.2.2.2.1, hg.2.2.2.2.1⟩, hg.2.2.2.2.2⟩
  ·with_reducible refine hR2 _ ?_ (fun zq bq tq yq hUq => ?_)
   ·exact EndOk.au
   have q11 := hUq.z 11
   have q57632896 := hUq.z 57632896
   have q57632897 := hUq.z 57632897
   have qy900003 := hUq.y 900003 (.byte)
   have qy900002 := hUq.y 900002 (trE)
   have qy900962 := hUq.y 900962 (mpE)
   cbv at q11 q57632896 q57632897 qy900003 qy900002 qy900962
   replace q11 := q11.eq
   replace q57632896 := q57632896.eq
   replace q57632897 := q57632897.eq
   replace qy900003 := qy900003.eq
   replace qy900002 := qy900002.eq
   replace qy900962 := qy900962.eq
   simp only [atI, atB, atT, atY, convL_self, vem, veq, ne_eq, cmpI, arI, dvI, shI, SV.den] at q11 q57632896 q57632897 qy900003 qy900002 qy900962
   clear hUq hR2
   try dsimp only [Shp.D, Shp.Ds, Shp.dflt] at *
   try simp only [vem, veq, ne_eq, cmpI, arI, dvI, shI, SV.den, elemAt, convL_self] at *
   try dsimp only [Shp.D, Shp.Ds, Shp.dflt, Shp.dflts] at *
   have hg := tp_skip (by assumption) r5 r7 r8 h q11 qy900002 qy900962
   exact ⟨⟨by rw [← q57632896]; exact r1, by rw [← q57632897]; exact r2, by rw [← qy900003]; exact r3, hg.1, hg.2.1, hg.2.2.1, hg.2.2.2.1, hg.2.2.2.2.1⟩, hg.2.2.2.2.2⟩
  ·with_reducible refine hR1 _ ?_ (fun zq bq tq yq hUq => ?_)
   ·exact EndOk.au
   have q8 := hUq.z 8
   have qy900001 := hUq.y 900001 (prE)
   cbv at q8 qy900001
   replace q8 := q8.eq
   replace qy900001 := qy900001.eq
   simp only [atI, atB, atT, atY, convL_self, vem, veq, ne_eq, cmpI, arI, dvI, shI, SV.den] at q8 qy900001
   clear hUq hR1
   try dsimp only [Shp.D, Shp.Ds, Shp.dflt] at *
   try simp only [vem, veq, ne_eq, cmpI, arI, dvI, shI, SV.den, elemAt, convL_self] at *
   try dsimp only [Shp.D, Shp.Ds, Shp.dflt, Shp.dflts] at *
   exact tp_out p2 hx2 (by assumption) p4 r1 r2 r3 r5 r4 r6 (by assumption) r7 q8 qy900001
 ·with_reducible refine loop_hv [(57632898, 900003, 5, .byte), (57632899, 900002, 135, trE)] (12 :: 29 :: rangeN 35 34) [900450] [900002, 900003, 900706] (fun z b t y => z 57632896 = ((y1 900001 prE).length : Int) + 1 ∧ z 57632897 = pr ∧ ((y 900003 .byte).length = if pr = 1 then 0 else 4) ∧ 0 ≤ z 11 ∧ ((y 900002 trE).length : Int) + z 11 ≤ 6 ∧ 1 ≤ ((y 900002 trE).length : Int) + z 11 ∧ TrG (y 900002 trE) ∧ MpG (y 900706 mpE) (y 900002 trE)) (fun z b t y => (z 11).toNat) (by cbv) (by cbv) ?_ ?_ (fun z2 b2 t2 u2 y2 R2 hP2 hR2 => ?_)
  ·exact EndOk.au
  ·intro zq bq tq yq hUq
   have q11 := hUq.z 11
   have q57632896 := hUq.z 57632896
   have q57632897 := hUq.z 57632897
   have qy900003 := hUq.y 900003 (.byte)
   have qy900002 := hUq.y 900002 (trE)
   have qy900706 := hUq.y 900706 (mpE)
   cbv at q11 q57632896 q57632897 qy900003 qy900002 qy900706
   replace q11 := q11.eq
   replace q57632896 := q57632896.eq
   replace q57632897 := q57632897.eq
   replace qy900003 := qy900003.eq
   replace qy900002 := qy900002.eq
   replace qy900706 := qy900706.eq
   simp only [atI, atB, atT, atY, convL_self, vem, veq, ne_eq, cmpI, arI, dvI, shI, SV.den] at q11 q57632896 q57632897 qy900003 qy900002 qy900706
   clear hUq
   try dsimp only [Shp.D, Shp.Ds, Shp.dflt] at *
   try simp only [vla, vem, veq] at *
   rw [← q11, ← q57632896, ← q57632897, ← qy900003, ← qy900002, ← qy900706]
   exact ⟨by omega, rfl, by first | (rw [if_neg h]; omega) | (rw [if_pos h]; rfl) | (rw [if_pos (by omega)]; rfl), by omega, by simp only [List.length_nil]; omega, by simp only [List.length_nil]; omega, tr_nil, mp_nil⟩
  obtain ⟨r1, r2, r3, r4, r5, r6, r7, r8⟩ := hP2
  cbv
  (repeat' (first|((with_reducible apply And.intro <;> intro h) <;> (first|(with_reducible first|exact (tf h ‹_›).elim|exact (tf ‹_› h).elim)|cbv))|((with_reducible first|apply Cb.mk|apply Lz.mk|apply JoinT.left|(apply AllT.mk;intro x hx));cbv)|((with_reducible refine Ob.mk (fun _ => ?_) ?_);rotate_left 1)|(with_reducible first|refine Mg.mk (Exists.intro ?_ (And.intro ?_ ?_))|rfl|apply Fin.mk|exact True.intro|apply And.intro)))
  all_goals first|(with_reducible first|show (∃ _, unr _ _ _ _ _ _)|show UnrI _ _ _ _ _|show Goes _ _ _ _|show JoinT _ _ _ _ _ _ _)|((try ((try dsimp only [Shp.D, Shp.Ds, Shp.dflt] at *); simp only [vla, vem, veq, vln] at *; (try dsimp only [Shp.D, Shp.Ds, Shp.dflt, Shp.dflts] at *); first | done | omega | (exact tp_no r8 h) | skip)))
  ·with_reducible refine hR2 _ ?_ (fun zq bq tq yq hUq => ?_)
   ·exact EndOk.au
   have q11 := hUq.z 11
   have q57632896 := hUq.z 57632896
   have q57632897 := hUq.z 57632897
   have qy900003 := hUq.y 900003 (.byte)
   have qy900002 := hUq.y 900002 (trE)
   have qy900706 := hUq.y 900706 (mpE)
   cbv at q11 q57632896 q57632897 qy900003 qy900002 qy900706
   replace q11 := q11.eq
   replace q57632896 := q57632896.eq
   replace q57632897 := q57632897.eq
   replace qy900003 := qy900003.eq
   replace qy900002 := qy900002.eq
   replace qy900706 := qy900706.eq
   simp only [atI, atB, atT, atY, convL_self, vem, veq, ne_eq, cmpI, arI, dvI, shI, SV.den] at q11 q57632896 q57632897 qy900003 qy900002 qy900706
   clear hUq hR2
   try dsimp only [Shp.D, Shp.Ds, Shp.dflt] at *
   try simp only [vem, veq, ne_eq, cmpI, arI, dvI, shI, SV.den, elemAt, convL_self] at *
   try dsimp only [Shp.D, Shp.Ds, Shp.dflt, Shp.dflts] at *
   have hg := tp_push (by assumption) r5 r7 r8 h (tp_t (by assumption) (by assumption) (.inr rfl)) q11 qy900002 qy900706
   exact ⟨⟨by rw [← q57632896]; exact r1, by rw [← q57632897]; exact r2, by rw [← qy900003]; exact r3, hg.1, hg.2.1, hg.2.2.1, hg.2.2.2.1, hg.2.2.2.2.1⟩, hg.2.2.2.2.2⟩
  ·with_reducible refine hR2 _ ?_ (fun zq bq tq yq hUq => ?_)
   ·exact EndOk.au
   have q11 := hUq.z 11
   have q57632896 := hUq.z 57632896
   have q57632897 := hUq.z 57632897
   have qy900003 := hUq.y 900003 (.byte)
   have qy900002 := hUq.y 900002 (trE)
   have qy900706 := hUq.y 900706 (mpE)
   cbv at q11 q57632896 q57632897 qy900003 qy900002 qy900706
   replace q11 := q11.eq
   replace q57632896 := q57632896.eq
   replace q57632897 := q57632897.eq
   replace qy900003 := qy900003.eq
   replace qy900002 := qy900002.eq
   replace qy900706 := qy900706.eq
   simp only [atI, atB, atT, atY, convL_self, vem, veq, ne_eq, cmpI, arI, dvI, shI, SV.den] at q11 q57632896 q57632897 qy900003 qy900002 qy900706
   clear hUq hR2
   try dsimp only [Shp.D, Shp.Ds, Shp.dflt] at *
   try simp only [vem, veq, ne_eq, cmpI, arI, dvI, shI, SV.den, elemAt, convL_self] at *
   try dsimp only [Shp.D, Shp.Ds, Shp.dflt, Shp.dflts] at *
   have hg := tp_skip (by assumption) r5 r7 r8 h q11 qy900002 qy900706
   exact ⟨⟨by rw [← q57632896]; exact r1, by rw [← q57632897]; exact r2, by rw [← qy900003]; exact r3, hg.1, hg.2.1, hg.2.2.1, hg.2.2.2.1, hg.2.2.2.2.1⟩, hg.2.2.2.2.2⟩
  ·with_reducible refine hR2 _ ?_ (fun zq bq tq yq hUq => ?_)
   ·exact EndOk.au
   have q11 := hUq.z 11
   have q57632896 := hUq.z 57632896
   have q57632897 := hUq.z 57632897
   have qy900003 := hUq.y 900003 (.byte)
   have qy900002 := hUq.y 900002 (trE)
   have qy900706 := hUq.y 900706 (mpE)
   cbv at q11 q57632896 q57632897 qy900003 qy900002 qy900706
   replace q11 := q11.eq
   replace q57632896 := q57632896.eq
   replace q57632897 := q57632897.eq
   replace qy900003 := qy900003.eq
   replace qy900002 := qy900002.eq
   replace qy900706 := qy900706.eq
   simp only [atI, atB, atT, atY, convL_self, vem, veq, ne_eq, cmpI, arI, dvI, shI, SV.den] at q11 q57632896 q57632897 qy900003 qy900002 qy900706
   clear hUq hR2
   try dsimp only [Shp.D, Shp.Ds, Shp.dflt] at *
   try simp only [vem, veq, ne_eq, cmpI, arI, dvI, shI, SV.den, elemAt, convL_self] at *
   try dsimp only [Shp.D, Shp.Ds, Shp.dflt, Shp.dflts] at *
   have hg := tp_push (by assumption) r5 r7 r8 h (tp_t (by assumption) (by assumption) (.inl rfl)) q11 qy900002 qy900706
   exact ⟨⟨by rw [← q57632896]; exact r1, by rw [← q57632897]; exact r2, by rw [← qy900003]; exact r3, hg.1, hg.2.1, hg.2.2.1, hg.2.2.2.1, hg.2.2.2.2.1⟩, hg.2.2.2.2.2⟩
  ·with_reducible refine hR2 _ ?_ (fun zq bq tq yq hUq => ?_)
   ·exact EndOk.au
   have q11 := hUq.z 11
   have q57632896 := hUq.z 57632896
   have q57632897 := hUq.z 57632897
   have qy900003 := hUq.y 900003 (.byte)
   have qy900002 := hUq.y 900002 (trE)
   have qy900706 := hUq.y 900706 (mpE)
   cbv at q11 q57632896 q57632897 qy900003 qy900002 qy900706
   replace q11 := q11.eq
   replace q57632896 := q57632896.eq
   replace q57632897 := q57632897.eq
   replace qy900003 := qy900003.eq
   replace qy900002 := qy900002.eq
   replace qy900706 := qy900706.eq
   simp only [atI, atB, atT, atY, convL_self, vem, veq, ne_eq, cmpI, arI, dvI, shI, SV.den] at q11 q57632896 q57632897 qy900003 qy900002 qy900706
   clear hUq hR2
   try dsimp only [Shp.D, Shp.Ds, Shp.dflt] at *
   try simp only [vem, veq, ne_eq, cmpI, arI, dvI, shI, SV.den, elemAt, convL_self] at *
   try dsimp only [Shp.D, Shp.Ds, Shp.dflt, Shp.dflts] at *
   have hg := tp_skip (by assumption) r5 r7 r8 h q11 qy900002 qy900706
   exact ⟨⟨by rw [← q57632896]; exact r1, by rw [← q57632897]; exact r2, by rw [← qy900003]; exact r3, hg.1, hg.2.1, hg.2.2.1, hg.2.2.2.1, hg.2.2.2.2.1⟩, hg.2.2.2.2.2⟩
  ·with_reducible refine hR2 _ ?_ (fun zq bq tq yq hUq => ?_)
   ·exact EndOk.au
   have q11 := hUq.z 11
   have q57632896 := hUq.z 57632896
   have q57632897 := hUq.z 57632897
   have qy900003 := hUq.y 900003 (.byte)
   have qy900002 := hUq.y 900002 (trE)
   have qy900706 := hUq.y 900706 (mpE)
   cbv at q11 q57632896 q57632897 qy900003 qy900002 qy900706
   replace q11 := q11.eq
   replace q57632896 := q57632896.eq
   replace q57632897 := q57632897.eq
   replace qy900003 := qy900003.eq
   replace qy900002 := qy900002.eq
   replace qy900706 := qy900706.eq
   simp only [atI, atB, atT, atY, convL_self, vem, veq, ne_eq, cmpI, arI, dvI, shI, SV.den] at q11 q57632896 q57632897 qy900003 qy900002 qy900706
   clear hUq hR2
   try dsimp only [Shp.D, Shp.Ds, Shp.dflt] at *
   try simp only [vem, veq, ne_eq, cmpI, arI, dvI, shI, SV.den, elemAt, convL_self] at *
   try dsimp only [Shp.D, Shp.Ds, Shp.dflt, Shp.dflts] at *
   have hg := tp_push (by assumption) r5 r7 r8 h (tp_t (by assumption) (by assumption) (.inl rfl)) q11 qy900002 qy900706
   exact ⟨⟨by rw [← q57632896]; exact r1, by rw [← q57632897]; exact r2, by rw [← qy900003]; exact r3, hg.1, hg.2.1, hg.2.2.1, hg.2.2.2.1, hg.2.2.2.2.1⟩, hg.2.2.2.2.2⟩
  ·with_reducible refine hR2 _ ?_ (fun zq bq tq yq hUq => ?_)
   ·exact EndOk.au
   have q11 := hUq.z 11
   have q57632896 := hUq.z 57632896
   have q57632897 := hUq.z 57632897
   have qy900003 := hUq.y 900003 (.byte)
   have qy900002 := hUq.y 900002 (trE)
   have qy900706 := hUq.y 900706 (mpE)
   cbv at q11 q57632896 q57632897 qy900003 qy900002 qy900706
   replace q11 := q11.eq
   replace q57632896 := q57632896.eq
   replace q57632897 := q57632897.eq
   replace qy900003 := qy900003.eq
   replace qy900002 := qy900002.eq
   replace qy900706 := qy900706.eq
   simp only [atI, atB, atT, atY, convL_self, vem, veq, ne_eq, cmpI, arI, dvI, shI, SV.den] at q11 q57632896 q57632897 qy900003 qy900002 qy900706
   clear hUq hR2
   try dsimp only [Shp.D, Shp.Ds, Shp.dflt] at *
   try simp only [vem, veq, ne_eq, cmpI, arI, dvI, shI, SV.den, elemAt, convL_self] at *
   try dsimp only [Shp.D, Shp.Ds, Shp.dflt, Shp.dflts] at *
   have hg := tp_skip (by assumption) r5 r7 r8 h q11 qy900002 qy900706
   exact ⟨⟨by rw [← q57632896]; exact r1, by rw [← q57632897]; exact r2, by rw [← qy900003]; exact r3, hg.1, hg.2.1, hg.2.2.1, hg.2.2.2.1, hg.2.2.2.2.1⟩, hg.2.2.2.2.2⟩
  ·with_reducible refine hR1 _ ?_ (fun zq bq tq yq hUq => ?_)
   ·exact EndOk.au
   have q8 := hUq.z 8
   have qy900001 := hUq.y 900001 (prE)
   cbv at q8 qy900001
   replace q8 := q8.eq
   replace qy900001 := qy900001.eq
   simp only [atI, atB, atT, atY, convL_self, vem, veq, ne_eq, cmpI, arI, dvI, shI, SV.den] at q8 qy900001
   clear hUq hR1
   try dsimp only [Shp.D, Shp.Ds, Shp.dflt] at *
   try simp only [vem, veq, ne_eq, cmpI, arI, dvI, shI, SV.den, elemAt, convL_self] at *
   try dsimp only [Shp.D, Shp.Ds, Shp.dflt, Shp.dflts] at *
   exact tp_out p2 hx2 (by assumption) p4 r1 r2 r3 r5 r4 r6 (by assumption) r7 q8 qy900001
end
end Go.Proofs.YtkifmppmfkpfbaaGreat.V
