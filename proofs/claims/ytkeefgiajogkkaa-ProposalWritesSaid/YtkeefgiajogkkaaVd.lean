/- The walker: Next, New, and laws. -/
import Derived.Test.YtkeefgiajogkkaaVc
set_option linter.unusedVariables false
set_option linter.unusedSimpArgs false
namespace Go.Proofs.Ytkeefgiajogkkaa.V
open Go.RowKit
theorem ncast (n : Nat) : @NatCast.natCast Int instNatCastInt n = (n : Int) := rfl
theorem vem : (∀ n, (IE.c n).den = n) ∧ (∀ n, (IE.x n).den = n) ∧ (∀ f, (IE.t f).den = f ()) ∧ (∀ o k a b, (IE.ar o k a b).den = arI o k a.den b.den) ∧ (∀ o k a b, (IE.bt o k a b).den = bits o k a.den b.den) ∧ (∀ o k a b, (IE.dv o k a b).den = dvI o k a.den b.den) ∧ (∀ o k a b, (IE.sh o k a b).den = shI o k a.den b.den) ∧ (∀ k a, (IE.cv k a).den = k.wrap a.den) ∧
    (∀ a b, (IE.mx a b).den = if b.den > a.den then b.den else a.den) ∧ (∀ a b, (IE.mn a b).den = if b.den < a.den then b.den else a.den) ∧ (∀ l i, (IE.sel l i).den = selI l i.den) ∧ (∀ b, (BE.c b).den = b) ∧ (∀ b, (BE.x b).den = b) ∧ (∀ f, (BE.t f).den = f ()) ∧ (∀ o a b, (BE.cmp o a b).den = cmpI o a.den b.den) ∧ (∀ a, (BE.not a).den = !a.den) ∧ (∀ a b, (BE.and a b).den = (a.den && b.den)) ∧ (∀ a b, (BE.eqb a b).den = (a.den == b.den)) ∧
    (∀ (p : Prop) [Decidable p], (decide p = true) = p) ∧ (∀ (p : Prop) [Decidable p], (decide p = false ↔ ¬ p)) ∧ (∀ (a b : Bool), (a && b) = true ↔ a = true ∧ b = true) ∧ (∀ (a b : Bool), (a || b) = true ↔ a = true ∨ b = true) ∧ (∀ (a b : Bool), (a && b) = false ↔ a = false ∨ b = false) ∧ (∀ (a b : Bool), (a || b) = false ↔ a = false ∧ b = false) ∧ (∀ (b : Bool), (¬ b = true) = (b = false)) ∧
    (∀ n : Nat, Int.ofNat n = (n : Int)) ∧ (∀ n : Int, IntKind.i64.wrap n = (n + 9223372036854775808) % 18446744073709551616 - 9223372036854775808) ∧ (∀ n : Nat, @NatCast.natCast Int instNatCastInt n = (n : Int)) :=
 ⟨den_c, den_x, den_t, den_ar, den_bt, den_dv, den_sh, den_cv, den_mx, den_mn, den_sel, bden_c, bden_x, bden_t, bden_cmp, bden_not, bden_and, bden_eqb, fun _ _ => decide_eq_true_eq, fun _ _ => decide_eq_false_iff_not, fun _ _ => Bool.and_eq_true_iff, fun _ _ => Bool.or_eq_true_iff, fun _ _ => Bool.and_eq_false_iff, fun _ _ => Bool.or_eq_false_iff, fun b => Bool.not_eq_true b, Int.ofNat_eq_natCast, IntKind.wrap_i64, ncast⟩
theorem veq {α : Type} [BEq α] [LawfulBEq α] (a b : α) : ((a == b) = true ↔ a = b) ∧ ((a == b) = false ↔ ¬ a = b) ∧ ((a != b) = true ↔ ¬ a = b) ∧ ((a != b) = false ↔ a = b) := ⟨beq_iff_eq, beq_eq_false_iff_ne, bne_iff_ne, bne_eq_false_iff_eq⟩
theorem vln {α : Type} : (∀ a b : List α, (a ++ b).length = a.length + b.length) ∧ (∀ (x : α) (l : List α), (x :: l).length = l.length + 1) ∧ ([] : List α).length = 0 := ⟨fun _ _ => List.length_append, fun _ _ => List.length_cons, List.length_nil⟩
theorem next_fn : hasFn Try.prog 11 := ⟨_, Try.func11, by rfl, by rfl⟩
theorem new_fn : hasFn Try.prog 8 := ⟨_, Try.func8, by rfl, by rfl⟩
theorem Cds.cd {T : TypeId} {p : Nat} {a : Option Addr} {n cap : Nat} {l : List UInt8} {w : World} (h : Cds T p a n cap l w) : Cd T w.heap.size p w := by
 obtain ⟨k, hb⟩ := h.block
 exact ⟨lt_of_block hb, Nat.le_refl _, a, n, cap, l, k, hb, h.bs, fun hn x hx => ⟨fun e => h.ne ⟨hn, x, hx, e.symm⟩, Bs_lt h.bs ⟨hn, x, hx, rfl⟩⟩⟩
theorem below_drewX {w : World} {p : Nat} {k m : Nat} : BelowX w.heap.size (fun j => j = p) w ((w.setCell ⟨p, 1, none⟩ (.int .i64 k)).drewN m) := by
 have h := ((Keep.refl w.heap.size p w).setCell (x := ⟨p, 1, none⟩) (.inr rfl) (.int .i64 k)).drewN m
 exact ⟨h.os, h.tape, h.output, h.size, fun j hj hne => h.block j hj hne⟩
section draw
variable {E : Env}
abbrev nextPre : Shp.Ds [.int .i64] → Prop := fun x => 1 ≤ x.1 ∧ x.1 ≤ 65536
abbrev nextPost : Shp.Ds [.int .i64] → Shp.Ds [.int .i64] → Prop := fun x y => 0 ≤ y.1 ∧ y.1 < x.1
theorem next_sp (hE : E.ok) : SpecOk Try.prog E 11 (drSpec 49 [.int .i64] [.int .i64] [] nextPre nextPost) := by
 refine ⟨next_fn, ?_⟩
 intro lo hi id args s K hlo hhi hs ρ w hh hargs
 unfold drSpec at hs
 split at hs
 ·exact hs.elim
 rename_i v0 rest
 split at hs
 ·exact hs.elim
 rename_i i hi0
 obtain ⟨rfl, fc, hfc, hfcc⟩ := codesAt_spec hi0
 split at hs
 ·exact hs.elim
 rename_i d hd
 split at hs
 ·exact hs.elim
 rename_i per hper
 obtain ⟨hal, hs⟩ := hs
 obtain ⟨hob, hs⟩ := obsK_spec hs
 have hpre := hs.ob ()
 have hall := hs.k.all
 have hfcm := (findE_mem hfc).1
 have hfci := (findE_mem hfc).2
 have hdens : SV.dens ρ rest = [.int .i64 (d.x ()).1] := by
  simp only [decArgs] at hd
  split at hd
  ·cases hd
  ·rename_i v l
   split at hd
   ·rename_i cs hcs
    split at hd
    ·rename_i d1 hd1
     split at hd
     ·rename_i hrest
      split at hd
      ·rename_i r1 hr1
       cases hd
       simp only [catP_eq] at hob
       obtain ⟨used, e1, h3⟩ := (dec_sound hh _ cs d1 hd1 fun p hp => hob p (List.mem_append_left _ hp)).ex
       rw [hrest, List.append_nil] at e1
       subst e1
       have h4 := h3 (fun _ => True) fun _ _ => trivial
       simp only [Shp.rep] at h4
       simp only [argC, isSt] at hcs
       cases hcs
       split at hr1
       ·simp only [SV.dens] at h4 ⊢
        rw [h4]
       ·cases hr1
      ·cases hd
     ·cases hd
    ·cases hd
   ·cases hd
 have hfa := hh.facts fc hfcm
 unfold FE.holds at hfa
 rw [hfcc] at hfa
 obtain ⟨l, hcds, hz⟩ := hfa
 obtain ⟨hp1, hp2⟩ := hpre
 have := mk_Next w.heap.size (ρ.b fc.id) (d.x ()).1 w hcds.cd hp1 hp2
 rw [show (SV.dens ρ (.ptr i 0 :: rest)).toArray = #[.pointer (some ⟨ρ.b fc.id, 0, none⟩), .int .i64 (d.x ()).1] from by rw [SV.dens, hdens, SV.den, hfci]]
 refine this.mono ?_
 rintro e w' ⟨x, k, m, rfl, h0, h1, rfl⟩
 obtain ⟨hh1, hoth⟩ := draw_hp hE hh hfcm hfcc (below_drewX (w := w) (p := ρ.b fc.id) (k := k) (m := m)) ⟨l, by
  obtain ⟨k0, hb⟩ := hcds.block
  refine ⟨⟨k, ?_⟩, ?_, hcds.ne⟩
  ·have := blk_set hb 1 (.int .i64 (k : Int))
   simpa using this
  ·exact (Bs_stable hcds.bs fun j hj => Below.heap_setCell _ _ _ _ (fun e => hcds.ne (by simp only at e; rw [← e]; exact hj))).drewN _⟩
 obtain ⟨hfr, hk⟩ := hall (x, ()) ⟨⟨h0, h1⟩, by simp [Shp.lims, Shp.lim]⟩
 refine ⟨_, _, ρ, ?_, hk, by simp only [catE_eq, List.nil_append]; exact hh1, fun ρ'' hr => ⟨hr, ?_⟩, ?_⟩
 ·show _ = Ending.returned (SV.den ρ (.int .i64 (.t fun _ => x)))
  simp only [SV.den, den_t]
 ·show (SV.int .i64 (.t fun _ => x)).den ρ'' = (SV.int .i64 (.t fun _ => x)).den ρ
  simp only [SV.den]
 ·refine ⟨fun e he _ => ⟨he, rfl, rfl⟩, fun id' f _ hf hali => ⟨f, hf, rfl, Fk.refl ρ f, fun k hk => hoth f (findE_mem hf).1 (fun e0 => ?_) k hk⟩⟩
  subst e0
  have hali : aliveE s.ents id' = true := hali
  unfold aliveE at hali
  rw [hf] at hali
  simp only [hfcc] at hali
  cases hali
theorem cds_new {T : TypeId} {w : World} {a : Option Addr} {n cap : Nat} {l : List UInt8} (h : Bs w a n cap l) : Cds T w.heap.size a n cap l (w.alloc (.cells #[.slice a n cap, .int .i64 0] T)) := by
 refine ⟨⟨0, blk_new w _ _ rfl⟩, h.mono ((Below.refl _ _).alloc (Nat.le_refl _) _), fun hk => ?_⟩
 have := Bs_lt h hk
 omega
set_option maxHeartbeats 400000 in
theorem mk_NewS (a : Option Addr) (len cap : Nat) (l : List UInt8) (n : Nat) (w : World) (h : Bs w a len cap l) (hn : n ≤ 1048576) :
    Calls Try.prog 8 #[.slice a len cap, .int .i64 n] w fun e w' => e = .returned (.pointer (some ⟨w.heap.size, 0, none⟩)) ∧
     (∃ a' n' cap' l', Cds 49 w.heap.size a' n' cap' l' w' ∧ ∀ k, blkOf a' n' k → blkOf a len k) ∧ Below w.heap.size w w' := by
 have hle := h.le
 have hcap := h.cap_le
 by_cases hlt : n < len
 ·obtain ⟨b, off, rfl, hc⟩ := h.cells (by omega)
  have hp := fun hc => h.part 0 n cap (by omega) (by omega) hc
  go_enter Try.func8, Try.ntmps8
  go_wp2
  go_ret
  refine ⟨rfl, ⟨_, _, _, _, cds_new (hp hcap), ?_⟩, (Below.refl _ _).alloc (Nat.le_refl _) _⟩
  rintro k ⟨hk, x, hx, rfl⟩
  refine ⟨by omega, _, rfl, ?_⟩
  cases hx
  rfl
 ·go_enter Try.func8, Try.ntmps8
  go_wp2
  go_ret
  exact ⟨rfl, ⟨_, _, _, _, cds_new h, fun _ h => h⟩, (Below.refl _ _).alloc (Nat.le_refl _) _⟩
theorem bs_of_rd {w : World} {Z : Nat → Prop} {s : Sl} {xs : List UInt8} (h : Rd w Z 1 (fun a b => b = [Value.int .u8 (UInt8.toNat a)]) s xs) : Bs w s.a s.n s.cap xs := by
 obtain ⟨hb, cs, h1, h2, h3⟩ := h
 refine ⟨hb.len.symm, by rw [hb.len]; exact hb.le, hb.capLe, by rw [hb.len]; exact hb.lim, fun hn => ?_⟩
 rcases h2 with h2 | ⟨b, off, ha, _, hc⟩
 ·rw [h2] at h1
  have := hb.len
  simp at h1
  omega
 ·refine ⟨b, off, ha, fun i hi => ?_⟩
  have := h3 i hi
  refine hc i _ ?_
  unfold chunk at this
  rw [Nat.mul_one] at this
  have hlt : i < cs.length := by omega
  have e := List.drop_eq_getElem_cons hlt
  rw [e] at this
  simp only [List.take_succ_cons, List.take_zero, List.cons.injEq, and_true] at this
  rw [List.getElem?_eq_getElem hlt, this]
def newSpec (T : TypeId) : Spec := fun lo hi id args s K =>
 match args with
 | [.fv i, .int .i64 m] => match findE s.ents i with
   | some f => match f.c with
     | .rows .byte x => (nBle lo id && nBlt id hi && freshE id s.heap && freshG id s.ents && !f.own) = true ∧ Ob (fun _ => 0 ≤ m.den ∧ m.den ≤ 1048576) (K (.ptr id 0) ⟨s.fr, s.n, s.heap, ⟨id, false, 0, f.al, .codes (.cd T)⟩ :: s.ents, s.next⟩)
     | _ => False
   | none => False
 | _ => False
theorem new_sp (hE : E.ok) : SpecOk Try.prog E 8 (newSpec 49) := by
 refine ⟨new_fn, ?_⟩
 intro lo hi id args s K hlo hhi hs ρ w hh hargs
 unfold newSpec at hs
 split at hs
 rotate_left
 ·exact hs.elim
 rename_i i m
 split at hs
 rotate_left
 ·exact hs.elim
 rename_i f hf
 split at hs
 rotate_left
 ·exact hs.elim
 rename_i x hc
 obtain ⟨hfr, ⟨hm, hk⟩⟩ := hs
 obtain ⟨hm0, hm1⟩ := hm ()
 simp only [Bool.and_eq_true, Bool.not_eq_true', nBlt_iff] at hfr
 obtain ⟨⟨⟨⟨g1, g2⟩, g3⟩, g4⟩, hown⟩ := hfr
 have ffr : Fresh E id s.heap s.ents := ⟨by rw [hlo]; exact nBle_le g1, by rw [hhi]; exact g2, freshE_mem g3, freshG_mem g4, freshG_nms g4⟩
 obtain ⟨hfm, hfid⟩ := findE_mem hf
 have hrd := FE.reads (hh.facts f hfm) hc
 simp only [Shp.rep] at hrd
 have hbs := bs_of_rd hrd
 obtain ⟨m', hm'⟩ := Int.eq_ofNat_of_zero_le hm0
 rw [hfid] at hbs
 refine (show (SV.dens ρ [.fv i, .int .i64 m]).toArray = #[.slice (ρ.s i).a (ρ.s i).n (ρ.s i).cap, .int .i64 m'] from by simp only [SV.dens, SV.den, hm', Sl.val]) ▸ (mk_NewS _ _ _ _ m' w hbs (by omega)).mono ?_
 rintro e w' ⟨rfl, ⟨a', n', cap', l', hcd, hsub⟩, hb⟩
 have h2 := hh.below hE hb
 have hB := hh.size
 -- the names
 have nb : ∀ g ∈ s.ents, g.id ≠ id := ffr.G
 have nH : ∀ e ∈ s.heap, e.id ≠ id := ffr.H
 let ρ1 : Nm := ⟨fun n => if n = id then w.heap.size else ρ.b n, fun n => if n = id then ⟨a', n', cap'⟩ else ρ.s n, fun n => if n = id then blkOf a' n' else ρ.z n⟩
 have b1 : ∀ n, n ≠ id → ρ1.b n = ρ.b n ∧ ρ1.s n = ρ.s n ∧ ρ1.z n = ρ.z n := fun n hn => ⟨by simp [ρ1, hn], by simp [ρ1, hn], by simp [ρ1, hn]⟩
 have bi : ρ1.b id = w.heap.size ∧ ρ1.s id = ⟨a', n', cap'⟩ ∧ ρ1.z id = blkOf a' n' := ⟨by simp [ρ1], by simp [ρ1], by simp [ρ1]⟩
 generalize ρ1 = ρ1 at b1 bi
 have a0 : Agr ρ ρ1 s.heap s.ents := ⟨fun e he => (b1 _ (nH e he)).1, fun g hg => ⟨(b1 _ (nb g hg)).1, (b1 _ (nb g hg)).2.1⟩⟩
 have fn : ∀ g ∈ s.ents, g.foot ρ1 = g.foot ρ := fun g hg => FE.foot_names (b1 _ (nb g hg)).1 (b1 _ (nb g hg)).2.1 (b1 _ (nb g hg)).2.2
 have xn : ∀ g ∈ s.ents, g.excl ρ1 = g.excl ρ := fun g hg => FE.excl_names (b1 _ (nb g hg)).1 (b1 _ (nb g hg)).2.1
 have down : ∀ {ρ''}, Agr ρ1 ρ'' s.heap (⟨id, false, 0, f.al, .codes (.cd 49)⟩ :: s.ents) → Agr ρ ρ'' s.heap s.ents := fun hr =>
  ⟨fun e he => (hr.1 e he).trans (a0.1 e he), fun g hg => ⟨(hr.2 g (List.mem_cons_of_mem _ hg)).1.trans (a0.2 g hg).1, (hr.2 g (List.mem_cons_of_mem _ hg)).2.trans (a0.2 g hg).2⟩⟩
 have foot0 : ∀ k, (⟨id, false, 0, f.al, .codes (.cd 49)⟩ : FE).foot ρ1 k → k = w.heap.size ∨ f.foot ρ k := by
  intro k hk
  unfold FE.foot at hk
  simp only [bi.1, bi.2.2] at hk
  rcases hk with hk | hk
  ·exact .inl hk
  ·obtain ⟨hn, x, hx, rfl⟩ := hsub k hk
   right
   unfold FE.foot FE.top
   rw [hc, hfid]
   exact .inr ⟨.inr hn, x, hx, rfl⟩
 have excl0 : ∀ k, (⟨id, false, 0, f.al, .codes (.cd 49)⟩ : FE).excl ρ1 k → k = w.heap.size := by
  intro k hk
  unfold FE.excl at hk
  simp only [bi.1] at hk
  exact hk
 have hadd : Hp E ρ1 s.heap (⟨id, false, 0, f.al, .codes (.cd 49)⟩ :: s.ents) w' := by
  refine ⟨h2.keep, h2.size, fun e he => by rw [a0.1 e he]; exact hh.base e he, fun ρ' hr e he => by rw [a0.1 e he]; exact h2.block ρ' (down hr) e he, fun e he e' he' heq => hh.inj e he e' he' (by rw [← a0.1 e he, ← a0.1 e' he']; exact heq), fun g hg => ?_, fun g hg => ?_, fun e he g hg hk => ?_, List.pairwise_cons.2 ⟨fun g hg k => ⟨fun hx hk => ?_, fun hx hk => ?_⟩, ?_⟩, fun g hg k hk => ?_, fun g hg k hk => ?_, fun j hj => ?_⟩
  ·rcases List.mem_cons.1 hg with rfl | hg
   ·unfold FE.holds
    simp only [bi.1, bi.2.1, bi.2.2]
    exact ⟨l', hcd, fun _ => trivial⟩
   ·rw [FE.holds_names (ρ := ρ) (a0.2 g hg).1 (a0.2 g hg).2 (b1 _ (nb g hg)).2.2 fun k hk => (b1 _ (ffr.hx hg hk)).2.1]
    exact h2.facts g hg
  ·rcases List.mem_cons.1 hg with rfl | hg
   ·intro e x he; cases he
   ·exact hh.pos g hg
  ·rw [a0.1 e he] at hk
   rcases List.mem_cons.1 hg with rfl | hg
   ·rcases foot0 _ hk with h | h
    ·have := hh.lt he; omega
    ·exact hh.apart e he f hfm h
   ·rw [fn g hg] at hk; exact hh.apart e he g hg hk
  ·have := excl0 k hx
   rw [fn g hg] at hk
   have := hh.foot_lt hg hk
   omega
  ·rw [xn g hg] at hx
   rcases foot0 k hk with h | h
   ·have := hh.foot_lt hg (FE.excl_foot hx); omega
   ·rcases hh.sep hfm g hg k hx with h1 | h1
    ·exact h1 h
    ·subst h1
     unfold FE.excl at hx
     rw [hc, hown] at hx
     cases hx.1
  ·exact hh.alone.imp_of_mem fun {g g'} hg hg' hs k => by rw [fn g hg, fn g' hg', xn g hg, xn g' hg']; exact hs k
  ·rcases List.mem_cons.1 hg with rfl | hg
   ·have := excl0 k hk
    exact .inr (by omega)
   ·rw [xn g hg] at hk; exact hh.exB g hg k hk
  ·rcases List.mem_cons.1 hg with rfl | hg
   ·rcases foot0 k hk with h | h
    ·exact .inl (by omega)
    ·exact hh.al f hfm k h
   ·rw [fn g hg] at hk; exact hh.al g hg k hk
  ·have hne : j ≠ id := by have := ffr.lo; have := ffr.hi; omega
   rw [(b1 j hne).1, (b1 j hne).2.1]
   exact hh.anc j hj
 refine ⟨.ptr id 0, _, ρ1, by simp only [SV.den, bi.1], hk, hadd, fun ρ'' hr => ⟨down hr, ?_⟩, ?_⟩
 ·have := (hr.2 _ List.mem_cons_self).1
  simp only [SV.den] at this ⊢
  rw [this]
 ·refine ⟨fun e he _ => ⟨he, a0.1 e he, hh.cells_agree a0 he⟩, fun id' g _ hg hali => ⟨g, ?_, rfl, (Fk.refl ρ g).names (fn g (findE_mem hg).1), fun k hk => hb.block k (hh.foot_lt (findE_mem hg).1 hk)⟩⟩
  rw [find_cons_ne fun e0 => nb g (findE_mem hg).1 (by rw [(findE_mem hg).2]; exact e0.symm)]
  exact hg
end draw
def argV (e : Shp) (cs : List Value) : Value := match isSt e with
 | true => .agg cs.toArray
 | false => match cs with
   | v :: _ => v
   | [] => undef
def ArgsRep (w : World) : (az : List Shp) → Shp.Ds az → List Value → Prop
 | [], _, vs => vs = []
 | e :: az, x, vs => ∃ cs r, vs = argV e cs :: r ∧ Shp.rep w (fun k => k < w.heap.size) e x.1 cs ∧ ArgsRep w az x.2 r
theorem packS_argV {e : Shp} {svs : List SV} {ρ : Nm} {cs : List Value} (h : SV.dens ρ svs = cs) : (packS e svs).den ρ = argV e cs := by
 unfold packS argV
 subst h
 cases isSt e with
 | true => simp only [SV.den]
 | false =>
   cases svs with
   | nil => simp only [SV.den, SV.dens]
   | cons v l => simp only [SV.dens]
theorem lawArgs (w : World) (z0 : Nat → Nat → Prop) (lo hi : Nat) (ρ : Nm) (hz0 : ∀ i k, k < w.heap.size → z0 i k) : ∀ (az : List Shp) (x : Shp.Ds az) (vals : List Value) (i : Nat) (svs : List SV) (ents : List FE), ArgsRep w az x vals → svArgs az (fun _ => x) i = some (svs, ents) →
    freshL lo hi [] [] ents = true → (∃ ρc, Hp (callEnv w z0 lo hi ρ) ρc [] ents w ∧ ∀ ρ'', Agr ρc ρ'' [] ents → SV.dens ρ'' svs = vals) ∧ ∀ f ∈ ents, f.own = false ∧ ∀ T, f.c ≠ .codes T
 | [], x, vals, i, svs, ents, hr, hs, hfr => by
   unfold svArgs at hs
   cases hs
   cases hr
   exact ⟨⟨ρ, hp_empty w z0 lo hi ρ, fun _ _ => rfl⟩, fun f hf => by cases hf⟩
 | e :: az, x, vals, i, svs, ents, hr, hs, hfr => by
   obtain ⟨cs, r, rfl, hrep, hr⟩ := hr
   simp only [svArgs] at hs
   split at hs
   ·rename_i svs1 a1 vs1 b1 h1 h2
    cases hs
    rw [catE_eq] at hfr ⊢
    obtain ⟨f1, f2⟩ := freshL_append hfr
    obtain ⟨⟨ρc, k1, k2⟩, k3⟩ := lawArgs w z0 lo hi ρ hz0 az x.2 r (i + 1) vs1 b1 hr h2 f1
    have hz : Zok (callEnv w z0 lo hi ρ) ρc [] b1 w [i] (fun k => k < w.heap.size) := ⟨fun k hk => hk, fun e he => (by cases he), fun g hg k hk _ => by
     unfold FE.excl at hk
     split at hk
     ·exact hk
     ·rw [(k3 g hg).1] at hk; cases hk.1
     ·rename_i T hT; exact (k3 g hg).2 T hT, fun k hk => .inr ⟨i, List.mem_singleton_self _, hz0 i k hk⟩⟩
    have hl : freshL (callEnv w z0 lo hi ρ).lo (callEnv w z0 lo hi ρ).hi [] b1 a1 = true := by
     rw [List.append_nil] at f2
     exact f2
    obtain ⟨⟨ρ1, q1, q2, _, _⟩, q3⟩ := lfVs_sound _ _ svs1 a1 _ ρc h1 k1 hz ((rep_leaves e (fun _ => x.1) _).1 hrep) hl
    refine ⟨⟨ρ1, q1, fun ρ'' hr => ?_⟩, fun f hf => ?_⟩
    ·obtain ⟨p1, p2⟩ := q2 ρ'' hr
     simp only [SV.dens]
     rw [packS_argV p2, k2 ρ'' p1]
    ·rcases List.mem_append.1 hf with hf | hf
     ·exact q3 f hf
     ·exact k3 f hf
   ·cases hs
def lawPost (v : SV) (s : St) : Prop := match v with
 | .bool b => Fin (fun _ => b.den = true)
 | _ => False
def vcLaw (C : Cx) (fn : Func) (az : List Shp) (x : Shp.Ds az) : Prop :=
 match svArgs az (fun _ => x) 0 with
 | some (svs, ents) => freshL C.lo C.hi [] [] ents = true ∧ vcF C fn svs [] ents 1000 lawPost
 | none => False
theorem law_of_vc {P : Program} {C : Cx} {f : FuncId} {fn : Func} (hfn : P.funcs[f]? = some fn) (hcalm : calmF fn = true) (hC : ∀ E : Env, E.ok → E.lo = C.lo → E.hi = C.hi → C.ok P E) {az : List Shp} {x : Shp.Ds az} {w : World} {vals : List Value}
    (hr : ArgsRep w az x vals) (h : vcLaw C fn az x) (hnp : ∀ s, ¬ C.x.pan s := by exact fun _ h => h) : Calls P f vals.toArray w fun e w' => e = .returned (.bool true) ∧ Below w.heap.size w w' := by
 unfold vcLaw at h
 split at h
 rotate_left
 ·exact h.elim
 rename_i svs ents hsv
 obtain ⟨hfr, hv⟩ := h
 obtain ⟨⟨ρc, c1, c2⟩, _⟩ := lawArgs w (fun _ k => k < w.heap.size) C.lo C.hi ⟨fun _ => 0, fun _ => ⟨none, 0, 0⟩, fun _ _ => False⟩ (fun _ _ h => h) az x vals 0 svs ents hr hsv hfr
 refine calls_of_vc (hC _ (callEnv_ok _ _ _ _ _) rfl rfl) hfn hcalm svs (ρ := ρc) (H := []) (G := ents) (nx := 1000) (xs := vals.toArray) (fun ρ' hr => by rw [c2 ρ' hr]) w c1 hv ?_ rfl fun s ρ w' _ h => (hnp s h).elim
 intro v s1 ρ1 a1 w1 hf1 hinv hpost
 unfold lawPost at hpost
 split at hpost
 ·exact ⟨by simp only [SV.den, hpost.ok], hf1.hp.keep⟩
 ·exact hpost.elim
end Go.Proofs.Ytkeefgiajogkkaa.V
