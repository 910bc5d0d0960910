import Derived.Test.YtkifmppmfkpfbaaGreatW16
import Derived.Test.YtkifmppmfkpfbaaGreatW14
import Derived.ChangeKeysEq
set_option linter.unusedVariables false
set_option linter.unusedSimpArgs false
namespace Go.Proofs.YtkifmppmfkpfbaaGreat.V
open Go.RowKit
section
theorem ncast (n : Nat) : @NatCast.natCast Int instNatCastInt n = (n : Int) := rfl
theorem vem : (∀ n, (IE.c n).den = n) ∧ (∀ n, (IE.x n).den = n) ∧ (∀ f, (IE.t f).den = f ()) ∧ (∀ o k a b, (IE.ar o k a b).den = arI o k a.den b.den) ∧ (∀ o k a b, (IE.bt o k a b).den = bits o k a.den b.den) ∧ (∀ o k a b, (IE.dv o k a b).den = dvI o k a.den b.den) ∧ (∀ o k a b, (IE.sh o k a b).den = shI o k a.den b.den) ∧ (∀ k a, (IE.cv k a).den = k.wrap a.den) ∧
    (∀ a b, (IE.mx a b).den = if b.den > a.den then b.den else a.den) ∧ (∀ a b, (IE.mn a b).den = if b.den < a.den then b.den else a.den) ∧ (∀ l i, (IE.sel l i).den = selI l i.den) ∧ (∀ b, (BE.c b).den = b) ∧ (∀ b, (BE.x b).den = b) ∧ (∀ f, (BE.t f).den = f ()) ∧ (∀ o a b, (BE.cmp o a b).den = cmpI o a.den b.den) ∧ (∀ a, (BE.not a).den = !a.den) ∧ (∀ a b, (BE.and a b).den = (a.den && b.den)) ∧ (∀ a b, (BE.eqb a b).den = (a.den == b.den)) ∧
    (∀ (p : Prop) [Decidable p], (decide p = true) = p) ∧ (∀ (p : Prop) [Decidable p], (decide p = false ↔ ¬ p)) ∧ (∀ (a b : Bool), (a && b) = true ↔ a = true ∧ b = true) ∧ (∀ (a b : Bool), (a || b) = true ↔ a = true ∨ b = true) ∧ (∀ (a b : Bool), (a && b) = false ↔ a = false ∨ b = false) ∧ (∀ (a b : Bool), (a || b) = false ↔ a = false ∧ b = false) ∧ (∀ (b : Bool), (¬ b = true) = (b = false)) ∧
    (∀ n : Nat, Int.ofNat n = (n : Int)) ∧ (∀ n : Int, IntKind.i64.wrap n = (n + 9223372036854775808) % 18446744073709551616 - 9223372036854775808) ∧ (∀ n : Nat, @NatCast.natCast Int instNatCastInt n = (n : Int)) :=
 ⟨den_c, den_x, den_t, den_ar, den_bt, den_dv, den_sh, den_cv, den_mx, den_mn, den_sel, bden_c, bden_x, bden_t, bden_cmp, bden_not, bden_and, bden_eqb, fun _ _ => decide_eq_true_eq, fun _ _ => decide_eq_false_iff_not, fun _ _ => Bool.and_eq_true_iff, fun _ _ => Bool.or_eq_true_iff, fun _ _ => Bool.and_eq_false_iff, fun _ _ => Bool.or_eq_false_iff, fun b => Bool.not_eq_true b, Int.ofNat_eq_natCast, IntKind.wrap_i64, ncast⟩
theorem veq {α : Type} [BEq α] [LawfulBEq α] (a b : α) : ((a == b) = true ↔ a = b) ∧ ((a == b) = false ↔ ¬ a = b) ∧ ((a != b) = true ↔ ¬ a = b) ∧ ((a != b) = false ↔ a = b) := ⟨beq_iff_eq, beq_eq_false_iff_ne, bne_iff_ne, bne_eq_false_iff_eq⟩
theorem vln {α : Type} : (∀ a b : List α, (a ++ b).length = a.length + b.length) ∧ (∀ (x : α) (l : List α), (x :: l).length = l.length + 1) ∧ ([] : List α).length = 0 := ⟨fun _ _ => List.length_append, fun _ _ => List.length_cons, List.length_nil⟩
theorem vla : (∀ k a b, arI .add k a b = k.wrap (a + b)) ∧ (∀ k a b, arI .sub k a b = k.wrap (a - b)) ∧ (∀ k a b, arI .mul k a b = k.wrap (a * b)) ∧ (∀ k a b, dvI .quo k a b = k.wrap (a.tdiv b)) ∧ (∀ k a b, dvI .rem k a b = a.tmod b) ∧ (∀ (k : IntKind) a b, shI .shl k a b = k.wrap (a * 2 ^ (min b.toNat k.bits))) ∧ (∀ (k : IntKind) a b, shI .shr k a b = a.fdiv (2 ^ (min b.toNat k.bits))) ∧
    (∀ a b, cmpI .eql a b = (a == b)) ∧ (∀ a b, cmpI .neq a b = (a != b)) ∧ (∀ a b, cmpI .lss a b = decide (a < b)) ∧ (∀ a b, cmpI .leq a b = decide (a ≤ b)) ∧ (∀ a b, cmpI .gtr a b = decide (a > b)) ∧ (∀ a b, cmpI .geq a b = decide (a ≥ b)) ∧
    (∀ e x i, obLt e x i = fun u => 0 ≤ i.den ∧ i.den < Int.ofNat (x u).length) ∧ (∀ e x i, elemAt e x i = fun u => (x u).getD i.den.toNat e.dflt) ∧ (∀ (α : Type) n (y z : Unit → List α), obApp n y z = fun u => ((y u).length + (z u).length) * n ≤ 140737488355328 ∧ (y u).length + (z u).length ≤ 140737488355328) ∧
    (∀ (α : Type) (x : List α) lo hi, partL x lo hi = (x.drop (lowD lo).toNat).take ((highD x.length hi).toNat - (lowD lo).toNat)) ∧ (∀ (α : Type) (x : Unit → List α) lo hi mx, obPart x lo hi mx = fun u => 0 ≤ lowD lo ∧ lowD lo ≤ highD (x u).length hi ∧ highD (x u).length hi ≤ Int.ofNat (x u).length ∧ mxOk (highD (x u).length hi) (x u).length mx) ∧
    lowD none = 0 ∧ (∀ i, lowD (some i) = i.den) ∧ (∀ n, highD n none = n) ∧ (∀ n i, highD n (some i) = i.den) ∧ (∀ h n, mxOk h n none = True) ∧ (∀ h n m, mxOk h n (some m) = (h ≤ m.den ∧ m.den ≤ n)) ∧ (∀ m, zerosB m = fun _ => List.replicate m.den.toNat 0) ∧ (∀ e xs, convL e e xs = xs) ∧ (∀ (α : Type) n (a : α), (List.replicate n a).length = n) ∧ (∀ (α : Type) (a b : α), (a ≠ b) = ¬ a = b) ∧
    (∀ ρ k e, SV.den ρ (.int k e) = .int k e.den) ∧ (∀ ρ b, SV.den ρ (.bool b) = .bool b.den) ∧ (∀ ρ f, SV.den ρ (.str f) = .string (f ())) ∧ (∀ ρ v, SV.den ρ (.val v) = v) :=
 ⟨fun _ _ _ => rfl, fun _ _ _ => rfl, fun _ _ _ => rfl, fun _ _ _ => rfl, fun _ _ _ => rfl, fun _ _ _ => rfl, fun _ _ _ => rfl, fun _ _ => rfl, fun _ _ => rfl, fun _ _ => rfl, fun _ _ => rfl, fun _ _ => rfl, fun _ _ => rfl, fun _ _ _ => rfl, fun _ _ _ => rfl, fun _ _ _ _ => rfl, fun _ _ _ _ => rfl, fun _ _ _ _ _ => rfl, rfl, fun _ => rfl, fun _ => rfl, fun _ _ => rfl, fun _ _ => rfl, fun _ _ _ => rfl, fun _ => rfl, convL_self, fun _ _ _ => List.length_replicate, fun _ _ _ => rfl, fun _ _ _ => rfl, fun _ _ => rfl, fun _ _ => rfl, fun _ _ => rfl⟩
theorem next_fn : hasFn Tryz.prog 12 := ⟨_, Tryz.func12, by rfl, by rfl⟩
theorem new_fn : hasFn Tryz.prog 7 := ⟨_, Tryz.func7, by rfl, by rfl⟩
theorem Cds.cd {T : TypeId} {p : Nat} {a : Option Addr} {n cap : Nat} {l : List UInt8} {w : World} (h : Cds T p a n cap l w) : Cd T w.heap.size p w := by
 obtain ⟨k, hb⟩ := h.block
 exact ⟨lt_of_block hb, Nat.le_refl _, a, n, cap, l, k, hb, h.bs, fun hn x hx => ⟨fun e => h.ne ⟨hn, x, hx, e.symm⟩, Bs_lt h.bs ⟨hn, x, hx, rfl⟩⟩⟩
theorem below_drewX {w : World} {p : Nat} {k m : Nat} : BelowX w.heap.size (fun j => j = p) w ((w.setCell ⟨p, 1, none⟩ (.int .i64 k)).drewN m) := by
 have h := ((Keep.refl w.heap.size p w).setCell (x := ⟨p, 1, none⟩) (.inr rfl) (.int .i64 k)).drewN m
 exact ⟨h.os, h.tape, h.output, h.size, fun j hj hne => h.block j hj hne⟩
section draw
variable {E : Env}
abbrev nextPre : Shp.Ds [.int .i64] → Prop := fun x => 1 ≤ x.1 ∧ x.1 ≤ 65536
abbrev nextPost : Shp.Ds [.int .i64] → Shp.Ds [.int .i64] → Prop := fun x y => 0 ≤ y.1 ∧ y.1 < x.1
theorem next_sp (hE : E.ok) : SpecOk Tryz.prog E 12 (drSpec 74 [.int .i64] [.int .i64] [] nextPre nextPost) := by
 refine ⟨next_fn, ?_⟩
 intro lo hi id args s K hlo hhi hs ρ w hh hargs
 unfold drSpec at hs
 split at hs
 ·exact hs.elim
 rename_i v0 rest
 split at hs
 ·exact hs.elim
 rename_i i hi0
 obtain ⟨rfl, fc, hfc, hfcc⟩ := codesAt_spec hi0
 split at hs
 ·exact hs.elim
 rename_i d hd
 split at hs
 ·exact hs.elim
 rename_i per hper
 obtain ⟨hal, hs⟩ := hs
 obtain ⟨hob, hs⟩ := obsK_spec hs
 have hpre := hs.ob ()
 have hall := hs.k.all
 have hfcm := (findE_mem hfc).1
 have hfci := (findE_mem hfc).2
 have hdens : SV.dens ρ rest = [.int .i64 (d.x ()).1] := by
  simp only [decArgs] at hd
  split at hd
  ·cases hd
  ·rename_i v l
   split at hd
   ·rename_i cs hcs
    split at hd
    ·rename_i d1 hd1
     split at hd
     ·rename_i hrest
      split at hd
      ·rename_i r1 hr1
       cases hd
       simp only [catP_eq] at hob
       obtain ⟨used, e1, h3⟩ := (dec_sound hh _ cs d1 hd1 fun p hp => hob p (List.mem_append_left _ hp)).ex
       rw [hrest, List.append_nil] at e1
       subst e1
       have h4 := h3 (fun _ => True) fun _ _ => trivial
       simp only [Shp.rep] at h4
       simp only [argC, isSt] at hcs
       cases hcs
       split at hr1
       ·simp only [SV.dens] at h4 ⊢
        rw [h4]
       ·cases hr1
      ·cases hd
     ·cases hd
    ·cases hd
   ·cases hd
 have hfa := hh.facts fc hfcm
 unfold FE.holds at hfa
 rw [hfcc] at hfa
 obtain ⟨l, hcds, hz⟩ := hfa
 obtain ⟨hp1, hp2⟩ := hpre
 have := mk_Next w.heap.size (ρ.b fc.id) (d.x ()).1 w hcds.cd hp1 hp2
 rw [show (SV.dens ρ (.ptr i 0 :: rest)).toArray = #[.pointer (some ⟨ρ.b fc.id, 0, none⟩), .int .i64 (d.x ()).1] from by rw [SV.dens, hdens, SV.den, hfci]]
 refine this.mono ?_
 rintro e w' ⟨x, k, m, rfl, h0, h1, rfl⟩
 obtain ⟨hh1, hoth⟩ := draw_hp hE hh hfcm hfcc (below_drewX (w := w) (p := ρ.b fc.id) (k := k) (m := m)) ⟨l, by
  obtain ⟨k0, hb⟩ := hcds.block
  refine ⟨⟨k, ?_⟩, ?_, hcds.ne⟩
  ·have := blk_set hb 1 (.int .i64 (k : Int))
   simpa using this
  ·exact (Bs_stable hcds.bs fun j hj => Below.heap_setCell _ _ _ _ (fun e => hcds.ne (by simp only at e; rw [← e]; exact hj))).drewN _⟩
 obtain ⟨hfr, hk⟩ := hall (x, ()) ⟨⟨h0, h1⟩, by simp [Shp.lims, Shp.lim]⟩
 refine ⟨_, _, ρ, ?_, hk, by simp only [catE_eq, List.nil_append]; exact hh1, fun ρ'' hr => ⟨hr, ?_⟩, ?_⟩
 ·show _ = Ending.returned (SV.den ρ (.int .i64 (.t fun _ => x)))
  simp only [SV.den, den_t]
 ·show (SV.int .i64 (.t fun _ => x)).den ρ'' = (SV.int .i64 (.t fun _ => x)).den ρ
  simp only [SV.den]
 ·refine ⟨fun e he _ => ⟨he, rfl, rfl⟩, fun id' f _ hf hali => ⟨f, hf, rfl, Fk.refl ρ f, fun k hk => hoth f (findE_mem hf).1 (fun e0 => ?_) k hk⟩⟩
  subst e0
  have hali : aliveE s.ents id' = true := hali
  unfold aliveE at hali
  rw [hf] at hali
  simp only [hfcc] at hali
  cases hali
theorem cds_new {T : TypeId} {w : World} {a : Option Addr} {n cap : Nat} {l : List UInt8} (h : Bs w a n cap l) : Cds T w.heap.size a n cap l (w.alloc (.cells #[.slice a n cap, .int .i64 0] T)) := by
 refine ⟨⟨0, blk_new w _ _ rfl⟩, h.mono ((Below.refl _ _).alloc (Nat.le_refl _) _), fun hk => ?_⟩
 have := Bs_lt h hk
 omega
set_option maxHeartbeats 400000 in
theorem mk_NewS (a : Option Addr) (len cap : Nat) (l : List UInt8) (n : Nat) (w : World) (h : Bs w a len cap l) (hn : n ≤ 1048576) :
    Calls Tryz.prog 7 #[.slice a len cap, .int .i64 n] w fun e w' => e = .returned (.pointer (some ⟨w.heap.size, 0, none⟩)) ∧
     (∃ a' n' cap' l', Cds 74 w.heap.size a' n' cap' l' w' ∧ ∀ k, blkOf a' n' k → blkOf a len k) ∧ Below w.heap.size w w' := by
 have hle := h.le
 have hcap := h.cap_le
 by_cases hlt : n < len
 ·obtain ⟨b, off, rfl, hc⟩ := h.cells (by omega)
  have hp := fun hc => h.part 0 n cap (by omega) (by omega) hc
  go_enter Tryz.func7, Tryz.ntmps7
  go_wp2
  go_ret
  refine ⟨rfl, ⟨_, _, _, _, cds_new (hp hcap), ?_⟩, (Below.refl _ _).alloc (Nat.le_refl _) _⟩
  rintro k ⟨hk, x, hx, rfl⟩
  refine ⟨by omega, _, rfl, ?_⟩
  cases hx
  rfl
 ·go_enter Tryz.func7, Tryz.ntmps7
  go_wp2
  go_ret
  exact ⟨rfl, ⟨_, _, _, _, cds_new h, fun _ h => h⟩, (Below.refl _ _).alloc (Nat.le_refl _) _⟩
theorem bs_of_rd {w : World} {Z : Nat → Prop} {s : Sl} {xs : List UInt8} (h : Rd w Z 1 (fun a b => b = [Value.int .u8 (UInt8.toNat a)]) s xs) : Bs w s.a s.n s.cap xs := by
 obtain ⟨hb, cs, h1, h2, h3⟩ := h
 refine ⟨hb.len.symm, by rw [hb.len]; exact hb.le, hb.capLe, by rw [hb.len]; exact hb.lim, fun hn => ?_⟩
 rcases h2 with h2 | ⟨b, off, ha, _, hc⟩
 ·rw [h2] at h1
  have := hb.len
  simp at h1
  omega
 ·refine ⟨b, off, ha, fun i hi => ?_⟩
  have := h3 i hi
  refine hc i _ ?_
  unfold chunk at this
  rw [Nat.mul_one] at this
  have hlt : i < cs.length := by omega
  have e := List.drop_eq_getElem_cons hlt
  rw [e] at this
  simp only [List.take_succ_cons, List.take_zero, List.cons.injEq, and_true] at this
  rw [List.getElem?_eq_getElem hlt, this]
def newSpec (T : TypeId) : Spec := fun lo hi id args s K =>
 match args with
 | [.fv i, .int .i64 m] => match findE s.ents i with
   | some f => match f.c with
     | .rows .byte x => (nBle lo id && nBlt id hi && freshE id s.heap && freshG id s.ents && !f.own) = true ∧ Ob (fun _ => 0 ≤ m.den ∧ m.den ≤ 1048576) (K (.ptr id 0) ⟨s.fr, s.n, s.heap, ⟨id, false, 0, f.al, .codes (.cd T)⟩ :: s.ents, s.next⟩)
     | _ => False
   | none => False
 | _ => False
theorem new_sp (hE : E.ok) : SpecOk Tryz.prog E 7 (newSpec 74) := by
 refine ⟨new_fn, ?_⟩
 intro lo hi id args s K hlo hhi hs ρ w hh hargs
 unfold newSpec at hs
 split at hs
 rotate_left
 ·exact hs.elim
 rename_i i m
 split at hs
 rotate_left
 ·exact hs.elim
 rename_i f hf
 split at hs
 rotate_left
 ·exact hs.elim
 rename_i x hc
 obtain ⟨hfr, ⟨hm, hk⟩⟩ := hs
 obtain ⟨hm0, hm1⟩ := hm ()
 simp only [Bool.and_eq_true, Bool.not_eq_true', nBlt_iff] at hfr
 obtain ⟨⟨⟨⟨g1, g2⟩, g3⟩, g4⟩, hown⟩ := hfr
 have ffr : Fresh E id s.heap s.ents := ⟨by rw [hlo]; exact nBle_le g1, by rw [hhi]; exact g2, freshE_mem g3, freshG_mem g4, freshG_nms g4⟩
 obtain ⟨hfm, hfid⟩ := findE_mem hf
 have hrd := FE.reads (hh.facts f hfm) hc
 simp only [Shp.rep] at hrd
 have hbs := bs_of_rd hrd
 obtain ⟨m', hm'⟩ := Int.eq_ofNat_of_zero_le hm0
 rw [hfid] at hbs
 refine (show (SV.dens ρ [.fv i, .int .i64 m]).toArray = #[.slice (ρ.s i).a (ρ.s i).n (ρ.s i).cap, .int .i64 m'] from by simp only [SV.dens, SV.den, hm', Sl.val]) ▸ (mk_NewS _ _ _ _ m' w hbs (by omega)).mono ?_
 rintro e w' ⟨rfl, ⟨a', n', cap', l', hcd, hsub⟩, hb⟩
 have h2 := hh.below hE hb
 have hB := hh.size
 -- the names
 have nb : ∀ g ∈ s.ents, g.id ≠ id := ffr.G
 have nH : ∀ e ∈ s.heap, e.id ≠ id := ffr.H
 let ρ1 : Nm := ⟨fun n => if n = id then w.heap.size else ρ.b n, fun n => if n = id then ⟨a', n', cap'⟩ else ρ.s n, fun n => if n = id then blkOf a' n' else ρ.z n⟩
 have b1 : ∀ n, n ≠ id → ρ1.b n = ρ.b n ∧ ρ1.s n = ρ.s n ∧ ρ1.z n = ρ.z n := fun n hn => ⟨by simp [ρ1, hn], by simp [ρ1, hn], by simp [ρ1, hn]⟩
 have bi : ρ1.b id = w.heap.size ∧ ρ1.s id = ⟨a', n', cap'⟩ ∧ ρ1.z id = blkOf a' n' := ⟨by simp [ρ1], by simp [ρ1], by simp [ρ1]⟩
 generalize ρ1 = ρ1 at b1 bi
 have a0 : Agr ρ ρ1 s.heap s.ents := ⟨fun e he => (b1 _ (nH e he)).1, fun g hg => ⟨(b1 _ (nb g hg)).1, (b1 _ (nb g hg)).2.1⟩⟩
 have fn : ∀ g ∈ s.ents, g.foot ρ1 = g.foot ρ := fun g hg => FE.foot_names (b1 _ (nb g hg)).1 (b1 _ (nb g hg)).2.1 (b1 _ (nb g hg)).2.2
 have xn : ∀ g ∈ s.ents, g.excl ρ1 = g.excl ρ := fun g hg => FE.excl_names (b1 _ (nb g hg)).1 (b1 _ (nb g hg)).2.1
 have down : ∀ {ρ''}, Agr ρ1 ρ'' s.heap (⟨id, false, 0, f.al, .codes (.cd 74)⟩ :: s.ents) → Agr ρ ρ'' s.heap s.ents := fun hr =>
  ⟨fun e he => (hr.1 e he).trans (a0.1 e he), fun g hg => ⟨(hr.2 g (List.mem_cons_of_mem _ hg)).1.trans (a0.2 g hg).1, (hr.2 g (List.mem_cons_of_mem _ hg)).2.trans (a0.2 g hg).2⟩⟩
 have foot0 : ∀ k, (⟨id, false, 0, f.al, .codes (.cd 74)⟩ : FE).foot ρ1 k → k = w.heap.size ∨ f.foot ρ k := by
  intro k hk
  unfold FE.foot at hk
  simp only [bi.1, bi.2.2] at hk
  rcases hk with hk | hk
  ·exact .inl hk
  ·obtain ⟨hn, x, hx, rfl⟩ := hsub k hk
   right
   unfold FE.foot FE.top
   rw [hc, hfid]
   exact .inr ⟨.inr hn, x, hx, rfl⟩
 have excl0 : ∀ k, (⟨id, false, 0, f.al, .codes (.cd 74)⟩ : FE).excl ρ1 k → k = w.heap.size := by
  intro k hk
  unfold FE.excl at hk
  simp only [bi.1] at hk
  exact hk
 have hadd : Hp E ρ1 s.heap (⟨id, false, 0, f.al, .codes (.cd 74)⟩ :: s.ents) w' := by
  refine ⟨h2.keep, h2.size, fun e he => by rw [a0.1 e he]; exact hh.base e he, fun ρ' hr e he => by rw [a0.1 e he]; exact h2.block ρ' (down hr) e he, fun e he e' he' heq => hh.inj e he e' he' (by rw [← a0.1 e he, ← a0.1 e' he']; exact heq), fun g hg => ?_, fun g hg => ?_, fun e he g hg hk => ?_, List.pairwise_cons.2 ⟨fun g hg k => ⟨fun hx hk => ?_, fun hx hk => ?_⟩, ?_⟩, fun g hg k hk => ?_, fun g hg k hk => ?_, fun j hj => ?_⟩
  ·rcases List.mem_cons.1 hg with rfl | hg
   ·unfold FE.holds
    simp only [bi.1, bi.2.1, bi.2.2]
    exact ⟨l', hcd, fun _ => trivial⟩
   ·rw [FE.holds_names (ρ := ρ) (a0.2 g hg).1 (a0.2 g hg).2 (b1 _ (nb g hg)).2.2 fun k hk => (b1 _ (ffr.hx hg hk)).2.1]
    exact h2.facts g hg
  ·rcases List.mem_cons.1 hg with rfl | hg
   ·intro e x he; cases he
   ·exact hh.pos g hg
  ·rw [a0.1 e he] at hk
   rcases List.mem_cons.1 hg with rfl | hg
   ·rcases foot0 _ hk with h | h
    ·have := hh.lt he; omega
    ·exact hh.apart e he f hfm h
   ·rw [fn g hg] at hk; exact hh.apart e he g hg hk
  ·have := excl0 k hx
   rw [fn g hg] at hk
   have := hh.foot_lt hg hk
   omega
  ·rw [xn g hg] at hx
   rcases foot0 k hk with h | h
   ·have := hh.foot_lt hg (FE.excl_foot hx); omega
   ·rcases hh.sep hfm g hg k hx with h1 | h1
    ·exact h1 h
    ·subst h1
     unfold FE.excl at hx
     rw [hc, hown] at hx
     cases hx.1
  ·exact hh.alone.imp_of_mem fun {g g'} hg hg' hs k => by rw [fn g hg, fn g' hg', xn g hg, xn g' hg']; exact hs k
  ·rcases List.mem_cons.1 hg with rfl | hg
   ·have := excl0 k hk
    exact .inr (by omega)
   ·rw [xn g hg] at hk; exact hh.exB g hg k hk
  ·rcases List.mem_cons.1 hg with rfl | hg
   ·rcases foot0 k hk with h | h
    ·exact .inl (by omega)
    ·exact hh.al f hfm k h
   ·rw [fn g hg] at hk; exact hh.al g hg k hk
  ·have hne : j ≠ id := by have := ffr.lo; have := ffr.hi; omega
   rw [(b1 j hne).1, (b1 j hne).2.1]
   exact hh.anc j hj
 refine ⟨.ptr id 0, _, ρ1, by simp only [SV.den, bi.1], hk, hadd, fun ρ'' hr => ⟨down hr, ?_⟩, ?_⟩
 ·have := (hr.2 _ List.mem_cons_self).1
  simp only [SV.den] at this ⊢
  rw [this]
 ·refine ⟨fun e he _ => ⟨he, a0.1 e he, hh.cells_agree a0 he⟩, fun id' g _ hg hali => ⟨g, ?_, rfl, (Fk.refl ρ g).names (fn g (findE_mem hg).1), fun k hk => hb.block k (hh.foot_lt (findE_mem hg).1 hk)⟩⟩
  rw [find_cons_ne fun e0 => nb g (findE_mem hg).1 (by rw [(findE_mem hg).2]; exact e0.symm)]
  exact hg
end draw
def argV (e : Shp) (cs : List Value) : Value := match isSt e with
 | true => .agg cs.toArray
 | false => match cs with
   | v :: _ => v
   | [] => undef
def ArgsRep (w : World) : (az : List Shp) → Shp.Ds az → List Value → Prop
 | [], _, vs => vs = []
 | e :: az, x, vs => ∃ cs r, vs = argV e cs :: r ∧ Shp.rep w (fun k => k < w.heap.size) e x.1 cs ∧ ArgsRep w az x.2 r
theorem packS_argV {e : Shp} {svs : List SV} {ρ : Nm} {cs : List Value} (h : SV.dens ρ svs = cs) : (packS e svs).den ρ = argV e cs := by
 unfold packS argV
 subst h
 cases isSt e with
 | true => simp only [SV.den]
 | false =>
   cases svs with
   | nil => simp only [SV.den, SV.dens]
   | cons v l => simp only [SV.dens]
theorem lawArgs (w : World) (z0 : Nat → Nat → Prop) (lo hi : Nat) (ρ : Nm) (hz0 : ∀ i k, k < w.heap.size → z0 i k) : ∀ (az : List Shp) (x : Shp.Ds az) (vals : List Value) (i : Nat) (svs : List SV) (ents : List FE), ArgsRep w az x vals → svArgs az (fun _ => x) i = some (svs, ents) →
    freshL lo hi [] [] ents = true → (∃ ρc, Hp (callEnv w z0 lo hi ρ) ρc [] ents w ∧ ∀ ρ'', Agr ρc ρ'' [] ents → SV.dens ρ'' svs = vals) ∧ ∀ f ∈ ents, f.own = false ∧ ∀ T, f.c ≠ .codes T
 | [], x, vals, i, svs, ents, hr, hs, hfr => by
   unfold svArgs at hs
   cases hs
   cases hr
   exact ⟨⟨ρ, hp_empty w z0 lo hi ρ, fun _ _ => rfl⟩, fun f hf => by cases hf⟩
 | e :: az, x, vals, i, svs, ents, hr, hs, hfr => by
   obtain ⟨cs, r, rfl, hrep, hr⟩ := hr
   simp only [svArgs] at hs
   split at hs
   ·rename_i svs1 a1 vs1 b1 h1 h2
    cases hs
    rw [catE_eq] at hfr ⊢
    obtain ⟨f1, f2⟩ := freshL_append hfr
    obtain ⟨⟨ρc, k1, k2⟩, k3⟩ := lawArgs w z0 lo hi ρ hz0 az x.2 r (i + 1) vs1 b1 hr h2 f1
    have hz : Zok (callEnv w z0 lo hi ρ) ρc [] b1 w [i] (fun k => k < w.heap.size) := ⟨fun k hk => hk, fun e he => (by cases he), fun g hg k hk _ => by
     unfold FE.excl at hk
     split at hk
     ·exact hk
     ·rw [(k3 g hg).1] at hk; cases hk.1
     ·rename_i T hT; exact (k3 g hg).2 T hT, fun k hk => .inr ⟨i, List.mem_singleton_self _, hz0 i k hk⟩⟩
    have hl : freshL (callEnv w z0 lo hi ρ).lo (callEnv w z0 lo hi ρ).hi [] b1 a1 = true := by
     rw [List.append_nil] at f2
     exact f2
    obtain ⟨⟨ρ1, q1, q2, _, _⟩, q3⟩ := lfVs_sound _ _ svs1 a1 _ ρc h1 k1 hz ((rep_leaves e (fun _ => x.1) _).1 hrep) hl
    refine ⟨⟨ρ1, q1, fun ρ'' hr => ?_⟩, fun f hf => ?_⟩
    ·obtain ⟨p1, p2⟩ := q2 ρ'' hr
     simp only [SV.dens]
     rw [packS_argV p2, k2 ρ'' p1]
    ·rcases List.mem_append.1 hf with hf | hf
     ·exact q3 f hf
     ·exact k3 f hf
   ·cases hs
def lawPost (v : SV) (s : St) : Prop := match v with
 | .bool b => Fin (fun _ => b.den = true)
 | _ => False
def vcLaw (C : Cx) (fn : Func) (az : List Shp) (x : Shp.Ds az) : Prop :=
 match svArgs az (fun _ => x) 0 with
 | some (svs, ents) => freshL C.lo C.hi [] [] ents = true ∧ vcF C fn svs [] ents 1000 lawPost
 | none => False
theorem law_of_vc {P : Program} {C : Cx} {f : FuncId} {fn : Func} (hfn : P.funcs[f]? = some fn) (hcalm : calmF fn = true) (hC : ∀ E : Env, E.ok → E.lo = C.lo → E.hi = C.hi → C.ok P E) {az : List Shp} {x : Shp.Ds az} {w : World} {vals : List Value}
    (hr : ArgsRep w az x vals) (h : vcLaw C fn az x) (hnp : ∀ s, ¬ C.x.pan s := by exact fun _ h => h) : Calls P f vals.toArray w fun e w' => e = .returned (.bool true) ∧ Below w.heap.size w w' := by
 unfold vcLaw at h
 split at h
 rotate_left
 ·exact h.elim
 rename_i svs ents hsv
 obtain ⟨hfr, hv⟩ := h
 obtain ⟨⟨ρc, c1, c2⟩, _⟩ := lawArgs w (fun _ k => k < w.heap.size) C.lo C.hi ⟨fun _ => 0, fun _ => ⟨none, 0, 0⟩, fun _ _ => False⟩ (fun _ _ h => h) az x vals 0 svs ents hr hsv hfr
 refine calls_of_vc (hC _ (callEnv_ok _ _ _ _ _) rfl rfl) hfn hcalm svs (ρ := ρc) (H := []) (G := ents) (nx := 1000) (xs := vals.toArray) (fun ρ' hr => by rw [c2 ρ' hr]) w c1 hv ?_ rfl fun s ρ w' _ h => (hnp s h).elim
 intro v s1 ρ1 a1 w1 hf1 hinv hpost
 unfold lawPost at hpost
 split at hpost
 ·exact ⟨by simp only [SV.den, hpost.ok], hf1.hp.keep⟩
 ·exact hpost.elim
end
section
theorem bt1 {P : Program} {t b : Nat} (h : (P.info? t).map (·.bytes) = some b) : ∃ i, P.info? t = some i ∧ i.bytes = b := by
 cases hi : P.info? t with
 | none => rw [hi] at h; cases h
 | some i => rw [hi] at h; exact ⟨i, rfl, by simpa using h⟩
inductive EK where
 | int
 | bool
 | str
 | array (n : Nat) (e : TypeId)
 | struct (fs : List (Nat × TypeId))
structure EKS (P : Program) (t : TypeId) (fs : List (Nat × TypeId)) : Prop where
 un : P.underlying t = some (.struct (P.fieldsOf t))
 si : P.stoodInHeld t = false
 fl : (P.fieldsOf t).toList.map (fun f => (f.name == "_", f.offset, f.type)) = fs.map fun x => (false, x.1, x.2)
def EKOk (P : Program) (t : TypeId) : EK → Prop
 | .int => ∃ k, P.underlying t = some (.int k)
 | .bool => P.underlying t = some .bool
 | .str => P.underlying t = some .string
 | .array n e => P.underlying t = some (.array n e)
 | .struct fs => EKS P t fs
abbrev ET := TypeId → Option EK
def ET.ok (P : Program) (K : ET) : Prop := ∀ t k, K t = some k → EKOk P t k
def eqFs (T : TT) (rec : TypeId → SV → SV → Option BE) : List (Nat × TypeId) → List SV → List SV → Option BE
 | [], _, _ => some (.c true)
 | (o, t) :: fs, xs, ys => match TT.look T t with
   | none => none
   | some i => match partV i xs o, partV i ys o with
     | some x, some y => match rec t x y, eqFs T rec fs xs ys with
       | some a, some b => some (BE.mkAnd a b)
       | _, _ => none
     | _, _ => none
def eqIs (T : TT) (rec : TypeId → SV → SV → Option BE) (e : TypeId) (xs ys : List SV) : List Nat → Option BE
 | [] => some (.c true)
 | j :: l => match TT.look T e with
   | none => none
   | some i => match partV i xs (j * i.size), partV i ys (j * i.size) with
     | some x, some y => match rec e x y, eqIs T rec e xs ys l with
       | some a, some b => some (BE.mkAnd a b)
       | _, _ => none
     | _, _ => none
def eqV (T : TT) (K : ET) : Nat → TypeId → SV → SV → Option BE
 | 0, _, _, _ => none
 | n + 1, t, x, y => match K t, x, y with
   | some .int, .int k a, .int k' b => (match nBeq (kNat k) (kNat k') with | true => some (BE.mkCmp .eql a b) | false => none)
   | some .bool, .bool a, .bool b => some (.eqb a b)
   | some .str, x, y => match strOf x, strOf y with
     | some f, some g => some (.t fun u => (f u).toList == (g u).toList)
     | _, _ => none
   | some (.array m e), .agg xs, .agg ys => match m with
     | 0 => none
     | _ => eqIs T (eqV T K n) e xs ys (rangeN 0 m)
   | some (.struct fs), .agg xs, .agg ys => eqFs T (eqV T K n) fs xs ys
   | _, _, _ => none
section
variable {P : Program} {T : TT} {K : ET}
theorem eqFs_sound (hT : TT.ok P T) (ρ : Nm) (w : World) (d : Nat) {rec : TypeId → SV → SV → Option BE} (hrec : ∀ t x y b, rec t x y = some b → (Op.equalIn d t (x.den ρ) (y.den ρ)).run P w = .ok b.den w) :
    ∀ (fs : List Field) (l : List (Nat × TypeId)) (xs ys : List SV) (b : BE), fs.map (fun f => (f.name == "_", f.offset, f.type)) = l.map (fun x => (false, x.1, x.2)) → eqFs T rec l xs ys = some b →
      (Op.eqFields d (SV.dens ρ xs).toArray (SV.dens ρ ys).toArray fs).run P w = .ok b.den w
 | [], [], xs, ys, b, _, h => by
   unfold eqFs at h
   cases h
   simp [Op.eqFields, bden_c]
 | [], _ :: _, _, _, _, he, _ => by cases he
 | _ :: _, [], _, _, _, he, _ => by cases he
 | f :: fs, (o, t) :: l, xs, ys, b, he, h => by
   simp only [List.map_cons, List.cons.injEq, Prod.mk.injEq] at he
   obtain ⟨⟨h1, rfl, rfl⟩, he⟩ := he
   unfold eqFs at h
   split at h
   ·cases h
   ·rename_i i hi
    split at h
    ·rename_i x y hx hy
     split at h
     ·rename_i a b' ha hb
      cases h
      have ih := eqFs_sound hT ρ w d hrec fs l xs ys b' he hb
      have hn : f.name ≠ "_" := by simpa using h1
      simp only [Op.eqFields, if_pos hn, Sem.run_bind, partV_part (TT.look_ok hT hi) hx, partV_part (TT.look_ok hT hi) hy, Result.andThen_ok, hrec _ _ _ _ ha, den_mkAnd]
      cases ha' : a.den with
      | true => simp only [Bool.not_true, Bool.false_eq_true, if_false, ih, Bool.true_and]
      | false => simp
     ·cases h
    ·cases h
theorem rangeN_eq (n : Nat) : ∀ a, rangeN a n = List.range' a n := by
 induction n with
 | zero => intro a; rfl
 | succ n ih => intro a; simp [rangeN, ih, List.range'_succ]
theorem TIOk.cellsOf {P : Program} {t : TypeId} {i : TI} (h : TIOk P t i) : P.cellsOf t = i.size := by
 obtain ⟨j, hj, hs⟩ := h.info
 simp [Program.cellsOf, hj, hs]
theorem eqIs_sound (hT : TT.ok P T) (ρ : Nm) (w : World) (d : Nat) {rec : TypeId → SV → SV → Option BE} (hrec : ∀ t x y b, rec t x y = some b → (Op.equalIn d t (x.den ρ) (y.den ρ)).run P w = .ok b.den w) (e : TypeId) (xs ys : List SV) :
    ∀ (l : List Nat) (b : BE), eqIs T rec e xs ys l = some b → (Op.eqItems d e (P.cellsOf e) (SV.dens ρ xs).toArray (SV.dens ρ ys).toArray l).run P w = .ok b.den w
 | [], b, h => by
   unfold eqIs at h
   cases h
   simp [Op.eqItems, bden_c]
 | j :: l, b, h => by
   unfold eqIs at h
   split at h
   ·cases h
   ·rename_i i hi
    split at h
    ·rename_i x y hx hy
     split at h
     ·rename_i a b' ha hb
      cases h
      have ih := eqIs_sound hT ρ w d hrec e xs ys l b' hb
      have hc := (TT.look_ok hT hi).cellsOf
      rw [hc] at ih
      simp only [Op.eqItems, hc, Sem.run_bind, partV_part (TT.look_ok hT hi) hx, partV_part (TT.look_ok hT hi) hy, Result.andThen_ok, hrec _ _ _ _ ha, den_mkAnd]
      cases ha' : a.den with
      | true => simp only [Bool.not_true, Bool.false_eq_true, if_false, ih, Bool.true_and]
      | false => simp
     ·cases h
    ·cases h
theorem eqV_sound (hT : TT.ok P T) (hK : ET.ok P K) (ρ : Nm) (w : World) : ∀ (n d : Nat) (t : TypeId) (x y : SV) (b : BE), eqV T K n t x y = some b → (Op.equalIn (d + n) t (x.den ρ) (y.den ρ)).run P w = .ok b.den w
 | 0, _, _, _, _, _, h => by cases h
 | n + 1, d, t, x, y, b, h => by
   unfold eqV at h
   split at h
   ·rename_i k a k' b' hk
    cases hkk : nBeq (kNat k) (kNat k') with
    | false => rw [hkk] at h; cases h
    | true =>
      rw [hkk] at h
      cases h
      have := kNat_inj hkk
      subst this
      obtain ⟨kk, hu⟩ := hK t _ hk
      simp only [SV.den, den_mkCmp]
      rw [show d + (n + 1) = (d + n) + 1 by omega, run_equalIn_int w _ t k kk _ _ hu]
      rfl
   ·rename_i a b' hk
    cases h
    have hu : P.underlying t = some .bool := hK t _ hk
    simp only [SV.den, bden_eqb]
    rw [show d + (n + 1) = (d + n) + 1 by omega, run_equalIn_bool' w _ t _ _ hu]
   ·rename_i hk
    have hu : P.underlying t = some .string := hK t _ hk
    split at h
    ·rename_i f g hf hg
     cases h
     have e1 := strOf_den hf ρ
     have e2 := strOf_den hg ρ
     rw [e1, e2, show d + (n + 1) = (d + n) + 1 by omega, run_equalIn_string w _ t _ _ hu, bden_t]
    ·cases h
   ·rename_i m e xs ys hk
    have hu : P.underlying t = some (.array m e) := hK t _ hk
    simp only [SV.den]
    cases m with
    | zero => cases h
    | succ m =>
      simp only [] at h
      have hl : ∃ i, TT.look T e = some i := by
       unfold rangeN eqIs at h
       split at h
       ·cases h
       ·rename_i i hi; exact ⟨i, hi⟩
      obtain ⟨i, hi⟩ := hl
      obtain ⟨j, hj, _⟩ := (TT.look_ok hT hi).info
      rw [show d + (n + 1) = (d + n) + 1 by omega, run_equalIn_array w _ _ _ hu hj]
      have := eqIs_sound hT ρ w (d + n) (fun t x y b hb => eqV_sound hT hK ρ w n d t x y b hb) e xs ys _ _ h
      rw [rangeN_eq, ← List.range_eq_range'] at this
      exact this
   ·rename_i fs xs ys hk
    have hu : EKS P t fs := hK t _ hk
    simp only [SV.den]
    rw [show d + (n + 1) = (d + n) + 1 by omega, run_equalIn_struct w _ t _ _ hu.un hu.si]
    exact eqFs_sound hT ρ w (d + n) (fun t x y b hb => eqV_sound hT hK ρ w n d t x y b hb) _ _ _ _ _ hu.fl h
   ·cases h
def eqF (T : TT) (K : ET) (t : TypeId) : EqF := fun xs ys => eqV T K 8 t (.agg xs) (.agg ys)
theorem eqF_ok (hT : TT.ok P T) (hK : ET.ok P K) {t : TypeId} (hg : P.eqGuardType P.depth t = false) : EqOk P t (eqF T K t) := by
 have key : ∀ xs ys b, eqF T K t xs ys = some b → ∀ (ρ : Nm) (w : World), (Op.equalIn 10000 t (.agg (SV.dens ρ xs).toArray) (.agg (SV.dens ρ ys).toArray)).run P w = .ok b.den w := by
  intro xs ys b h ρ w
  have := eqV_sound hT hK ρ w 8 9992 t _ _ _ h
  simpa only [SV.den] using this
 constructor
 ·intro xs ys b h ρ w x y
  simp only [Sem.run_bind, run_eqGuard_agg _ _ _ _ _ _ _ hg, Result.andThen_ok, run_eql_struct, key _ _ _ h]
 ·intro xs ys b h ρ w x y
  simp only [Sem.run_bind, run_eqGuard_agg _ _ _ _ _ _ _ hg, Result.andThen_ok, run_neq_struct, key _ _ _ h]
end
end
end Go.Proofs.YtkifmppmfkpfbaaGreat.V
