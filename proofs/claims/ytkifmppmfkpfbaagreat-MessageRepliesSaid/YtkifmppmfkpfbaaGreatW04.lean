import Derived.Test.YtkifmppmfkpfbaaGreatW03
set_option linter.unusedVariables false
set_option linter.unusedSimpArgs false
namespace Go.Proofs.YtkifmppmfkpfbaaGreat.V
open Go.RowKit
section
mutual
def shEq : Shp → Shp → Bool
 | .int k, .int k' => nBeq (kNat k) (kNat k')
 | .byte, .byte => true
 | .bool, .bool => true
 | .str, .str => true
 | .sl e, .sl e' => shEq e e'
 | .st fs, .st fs' => shEqs fs fs'
 | _, _ => false
def shEqs : List Shp → List Shp → Bool
 | [], [] => true
 | f :: fs, f' :: fs' => shEq f f' && shEqs fs fs'
 | _, _ => false
end
mutual
theorem shEq_eq : ∀ {e e' : Shp}, shEq e e' = true → e = e'
 | .int k, .int k', h => by rw [kNat_inj h]
 | .byte, .byte, _ => rfl
 | .bool, .bool, _ => rfl
 | .str, .str, _ => rfl
 | .sl e, .sl e', h => by rw [shEq_eq (e := e) (e' := e') h]
 | .st fs, .st fs', h => by rw [shEqs_eq (fs := fs) (fs' := fs') h]
 | .int _, .byte, h | .int _, .bool, h | .int _, .str, h | .int _, .sl _, h | .int _, .st _, h => by simp [shEq] at h
 | .byte, .int _, h | .byte, .bool, h | .byte, .str, h | .byte, .sl _, h | .byte, .st _, h => by simp [shEq] at h
 | .bool, .int _, h | .bool, .byte, h | .bool, .str, h | .bool, .sl _, h | .bool, .st _, h => by simp [shEq] at h
 | .str, .int _, h | .str, .byte, h | .str, .bool, h | .str, .sl _, h | .str, .st _, h => by simp [shEq] at h
 | .sl _, .int _, h | .sl _, .byte, h | .sl _, .bool, h | .sl _, .str, h | .sl _, .st _, h => by simp [shEq] at h
 | .st _, .int _, h | .st _, .byte, h | .st _, .bool, h | .st _, .str, h | .st _, .sl _, h => by simp [shEq] at h
theorem shEqs_eq : ∀ {fs fs' : List Shp}, shEqs fs fs' = true → fs = fs'
 | [], [], _ => rfl
 | f :: fs, f' :: fs', h => by
   simp only [shEqs, Bool.and_eq_true] at h
   rw [shEq_eq h.1, shEqs_eq h.2]
 | [], _ :: _, h => by simp [shEqs] at h
 | _ :: _, [], h => by simp [shEqs] at h
end
mutual
def Shp.conv : (e e' : Shp) → e.D → e'.D
 | .int _, .int _, x => x
 | .byte, .byte, x => x
 | .bool, .bool, x => x
 | .str, .str, x => x
 | .sl e, .sl e', x => x.map (fun a => Shp.conv e e' a)
 | .st fs, .st fs', x => Shp.convs fs fs' x
 | _, e', _ => e'.dflt
def Shp.convs : (fs fs' : List Shp) → Shp.Ds fs → Shp.Ds fs'
 | [], [], _ => ()
 | f :: fs, f' :: fs', x => (Shp.conv f f' x.1, Shp.convs fs fs' x.2)
 | _, fs', _ => Shp.dflts fs'
end
mutual
theorem conv_self : ∀ (e : Shp) (x : e.D), Shp.conv e e x = x
 | .int _, _ => rfl
 | .byte, _ => rfl
 | .bool, _ => rfl
 | .str, _ => rfl
 | .sl e, x => by
   show List.map (fun a => Shp.conv e e a) x = x
   rw [show (fun a => Shp.conv e e a) = id from funext fun a => conv_self e a]
   simp
 | .st fs, x => convs_self fs x
theorem convs_self : ∀ (fs : List Shp) (x : Shp.Ds fs), Shp.convs fs fs x = x
 | [], _ => rfl
 | f :: fs, x => by
   show (Shp.conv f f x.1, Shp.convs fs fs x.2) = x
   rw [conv_self f, convs_self fs]
end
def convL (e e' : Shp) (xs : List e.D) : List e'.D := xs.map (fun a => Shp.conv e e' a)
theorem convL_self (e : Shp) (xs : List e.D) : convL e e xs = xs := by
 unfold convL
 rw [show (fun a => Shp.conv e e a) = id from funext fun a => conv_self e a]
 simp
structure Dc (α : Type) where
 x : Unit → α
 rest : List SV
 ob : List (Unit → Prop)
 ids : List Nat
 bs : List Nat
def toB (n : Int) : UInt8 := UInt8.ofNat n.toNat
theorem toB_toNat {n : Int} (h0 : 0 ≤ n) (h1 : n < 256) : ((toB n).toNat : Int) = n := by
 unfold toB
 have : n.toNat % 256 = n.toNat := Nat.mod_eq_of_lt (by omega)
 simp [UInt8.toNat_ofNat', this]
 omega
def obB : IE → List (Unit → Prop)
 | .c n => if 0 ≤ n ∧ n < 256 then [] else [fun _ => False]
 | .cv .u8 _ => []
 | e => [fun _ => 0 ≤ e.den ∧ e.den < 256]
theorem obB_spec {e : IE} (h : ∀ p ∈ obB e, p ()) : 0 ≤ e.den ∧ e.den < 256 := by
 unfold obB at h
 split at h
 ·rename_i n
  split at h
  ·rw [den_c]; assumption
  ·exact (h _ List.mem_cons_self).elim
 ·rename_i a
  rw [den_cv]
  unfold IntKind.wrap
  simp only [IntKind.signed, IntKind.bits]
  constructor
  ·simp; exact Int.emod_nonneg _ (by decide)
  ·simp; exact Int.emod_lt_of_pos _ (by decide)
 ·exact h _ List.mem_cons_self
def catP : List (Unit → Prop) → List (Unit → Prop) → List (Unit → Prop)
 | [], m => m
 | x :: l, m => x :: catP l m
theorem catP_eq (l m : List (Unit → Prop)) : catP l m = l ++ m := by
 induction l with
 | nil => rfl
 | cons x l ih => simp [catP, ih]
def catN : List Nat → List Nat → List Nat
 | [], m => m
 | x :: l, m => x :: catN l m
theorem catN_eq (l m : List Nat) : catN l m = l ++ m := by
 induction l with
 | nil => rfl
 | cons x l ih => simp [catN, ih]
def decN {α : Type} (f : List SV → Option (Dc α)) : Nat → List SV → Option (Dc (List α))
 | 0, l => some ⟨fun _ => [], l, [], [], []⟩
 | n + 1, l => match f l with
   | some d => match decN f n d.rest with
     | some r => some ⟨fun u => d.x u :: r.x u, r.rest, catP d.ob r.ob, catN d.ids r.ids, catN d.bs r.bs⟩
     | none => none
   | none => none
def decI (k : IntKind) : List SV → Option (Dc Int)
 | .int k' i :: r => match nBeq (kNat k) (kNat k') with
   | true => some ⟨fun _ => i.den, r, [], [], []⟩
   | false => none
 | _ => none
def decY : List SV → Option (Dc UInt8)
 | .int k i :: r => match nBeq (kNat .u8) (kNat k) with
   | true => some ⟨fun _ => toB i.den, r, obB i, [], []⟩
   | false => none
 | _ => none
def decB : List SV → Option (Dc Bool)
 | .bool b :: r => some ⟨fun _ => b.den, r, [], [], []⟩
 | _ => none
def decS : List SV → Option (Dc ByteArray)
 | v :: r => match strOf v with
   | some f => some ⟨f, r, [], [], []⟩
   | none => none
 | _ => none
def decL (H : List Ent) (G : List FE) (e : Shp) (f : List SV → Option (Dc e.D)) : List SV → Option (Dc (List e.D))
 | .val (.slice none 0 0) :: r => some ⟨fun _ => [], r, [], [], []⟩
 | .fv id :: r => match findE G id with
   | some f => match f.c with
     | .rows e' x => match shEq e' e with
       | true => some ⟨fun u => convL e' e (x u), r, [], [id], []⟩
       | false => none
     | _ => none
   | none => none
 | .osl b o n cap :: r => match cellsE H b with
   | some cs => match nBle n cap && nBle cap 1000000 && nBle o (lenL cs) with
     | true => match decN f n (dropL o cs) with
       | some d => some ⟨d.x, r, d.ob, d.ids, b :: d.bs⟩
       | none => none
     | false => none
   | none => none
 | _ => none
mutual
def dec (H : List Ent) (G : List FE) : (e : Shp) → List SV → Option (Dc e.D)
 | .int k => fun l => decI k l
 | .byte => fun l => decY l
 | .bool => fun l => decB l
 | .str => fun l => decS l
 | .sl e => fun l => decL H G e (fun l => dec H G e l) l
 | .st fs => fun l => decs H G fs l
def decs (H : List Ent) (G : List FE) : (fs : List Shp) → List SV → Option (Dc (Shp.Ds fs))
 | [] => fun l => some ⟨fun _ => (), l, [], [], []⟩
 | f :: fs => fun l => match dec H G f l with
   | some d => match decs H G fs d.rest with
     | some r => some ⟨fun u => (d.x u, r.x u), r.rest, catP d.ob r.ob, catN d.ids r.ids, catN d.bs r.bs⟩
     | none => none
   | none => none
end
def DFoot (ρ : Nm) (G : List FE) (ids bs : List Nat) (k : Nat) : Prop := (∃ id ∈ ids, ∃ f, findE G id = some f ∧ f.foot ρ k) ∨ ∃ b ∈ bs, k = ρ.b b
section reads
variable {E : Env} {ρ : Nm} {w : World} {H : List Ent} {G : List FE}
theorem ownsRow_reads {t : TypeId} {sz : Nat} {s : Sl} {n : Nat} {cs : List Value} {Z : Nat → Prop} (h : w.ownsRow 0 t sz s.val n cs) (hz : ∀ x, s.a = some x → Z x.block) : Reads w Z s.a cs := by
 rcases h.2 with ⟨h1, h2⟩ | ⟨g, cap, cur, h1, h2, h3, h4, h5, h6, h7⟩
 ·subst h2
  have : cs = [] := List.eq_nil_of_length_eq_zero (by simpa using h.1)
  exact .inl this
 ·simp only [Sl.val, Value.slice.injEq] at h1
  refine .inr ⟨g, 0, h1.1, hz _ h1.1, fun j v hv => ?_⟩
  rw [cell_of_row w g (0 + j) cur t (0, 0) h3]
  rw [← h7, List.getElem?_take] at hv
  split at hv
  ·simpa using hv
  ·cases hv
theorem FE.reads {f : FE} (h : f.holds ρ w) {e : Shp} {x : Unit → List e.D} (hc : f.c = .rows e x) : Rd w (f.foot ρ) e.size (fun a b => Shp.rep w (f.foot ρ) e a b) (ρ.s f.id) (x ()) := by
 unfold FE.holds at h
 rw [hc] at h
 obtain ⟨h1, h2⟩ := h
 cases ho : f.own with
 | false => rw [ho] at h2; exact h2
 | true =>
   rw [ho] at h2
   obtain ⟨cs, h3, h4⟩ := h2.ex
   have hz : ∀ k, ρ.z f.id k → f.foot ρ k := fun k hk => by unfold FE.foot; rw [hc]; exact .inl hk
   refine ⟨h2.bd, cs, h3.1, ownsRow_reads h3 fun y hy => ?_, fun i hi => Shp.rep_mono hz (fun _ _ => rfl) e _ _ (h4 i hi)⟩
   unfold FE.foot
   rw [hc]
   exact .inr ⟨.inl ho, y, hy, rfl⟩
theorem Reads.of_block {Z : Nat → Prop} {b : Nat} {cs : Array Value} {ty : TypeId} {fr : Nat × Nat} (hb : w.heap[b]? = some (.cells cs ty fr)) (hz : Z b) (o m : Nat) : Reads w Z (some ⟨b, o, none⟩) ((cs.toList.drop o).take m) := by
 refine .inr ⟨b, o, rfl, hz, fun j v hv => ?_⟩
 rw [cell_of_row w b (o + j) cs ty fr hb]
 rw [List.getElem?_take] at hv
 split at hv
 ·simpa using hv
 ·cases hv
structure DcOk (ρ : Nm) (w : World) (H : List Ent) (G : List FE) {α : Type} (r : (Nat → Prop) → α → List Value → Prop) (l : List SV) (d : Dc α) : Prop where
 ex : ∃ used, l = used ++ d.rest ∧ ∀ Z : Nat → Prop, (∀ k, DFoot ρ G d.ids d.bs k → Z k) → r Z (d.x ()) (SV.dens ρ used)
theorem decN_sound {α : Type} {sz : Nat} {r : (Nat → Prop) → α → List Value → Prop} (hlen : ∀ Z a vs, r Z a vs → vs.length = sz) {f : List SV → Option (Dc α)} (hf : ∀ l d, f l = some d → (∀ p ∈ d.ob, p ()) → DcOk ρ w H G r l d) :
    ∀ (n : Nat) (l : List SV) (d : Dc (List α)), decN f n l = some d → (∀ p ∈ d.ob, p ()) → ∃ used, l = used ++ d.rest ∧ (d.x ()).length = n ∧ used.length = n * sz ∧
      ∀ Z : Nat → Prop, (∀ k, DFoot ρ G d.ids d.bs k → Z k) → ∀ i (h : i < (d.x ()).length), r Z (d.x ())[i] (chunk (SV.dens ρ used) i sz)
 | 0, l, d, h, _ => by
   unfold decN at h
   cases h
   exact ⟨[], rfl, rfl, by simp, fun Z hz i hi => by simp at hi⟩
 | n + 1, l, d, h, ho => by
   unfold decN at h
   split at h
   ·rename_i d1 hd1
    split at h
    ·rename_i r1 hr1
     cases h
     simp only [catP_eq, catN_eq] at ho ⊢
     obtain ⟨u1, e1, h1⟩ := (hf _ _ hd1 fun p hp => ho p (List.mem_append_left _ hp)).ex
     obtain ⟨u2, e2, h2, h3, h4⟩ := decN_sound hlen hf n _ _ hr1 fun p hp => ho p (List.mem_append_right _ hp)
     have z1 : ∀ Z : Nat → Prop, (∀ k, DFoot ρ G (d1.ids ++ r1.ids) (d1.bs ++ r1.bs) k → Z k) → ∀ k, DFoot ρ G d1.ids d1.bs k → Z k := fun Z hz k hk => hz k (by
      rcases hk with ⟨i, hi, hk⟩ | ⟨b, hb, hk⟩
      ·exact .inl ⟨i, List.mem_append_left _ hi, hk⟩
      ·exact .inr ⟨b, List.mem_append_left _ hb, hk⟩)
     have z2 : ∀ Z : Nat → Prop, (∀ k, DFoot ρ G (d1.ids ++ r1.ids) (d1.bs ++ r1.bs) k → Z k) → ∀ k, DFoot ρ G r1.ids r1.bs k → Z k := fun Z hz k hk => hz k (by
      rcases hk with ⟨i, hi, hk⟩ | ⟨b, hb, hk⟩
      ·exact .inl ⟨i, List.mem_append_right _ hi, hk⟩
      ·exact .inr ⟨b, List.mem_append_right _ hb, hk⟩)
     have hu1 : u1.length = sz := by
      have := hlen _ _ _ (h1 (fun _ => True) fun _ _ => trivial)
      rw [dens_length] at this
      exact this
     refine ⟨u1 ++ u2, by rw [e1, e2, List.append_assoc], by simp [h2], by rw [List.length_append, hu1, h3, Nat.succ_mul, Nat.add_comm], fun Z hz i hi => ?_⟩
     rw [dens_append]
     cases i with
     | zero =>
       simp only [chunk, Nat.zero_mul, List.drop_zero, List.getElem_cons_zero]
       rw [List.take_append_of_le_length (by rw [dens_length, hu1]; exact Nat.le_refl _), List.take_of_length_le (by rw [dens_length, hu1]; exact Nat.le_refl _)]
       exact h1 Z (z1 Z hz)
     | succ i =>
       have := h4 Z (z2 Z hz) i (by simpa using hi)
       simp only [List.getElem_cons_succ]
       unfold chunk at this ⊢
       rw [show (i + 1) * sz = (SV.dens ρ u1).length + i * sz by rw [dens_length, hu1, Nat.succ_mul]; omega, List.drop_append, List.drop_of_length_le (Nat.le_add_right _ _), List.nil_append, Nat.add_sub_cancel_left]
       exact this
    ·cases h
   ·cases h
end reads
section decs
variable {E : Env} {ρ : Nm} {w : World} {H : List Ent} {G : List FE}
theorem DFoot.left {ids ids' bs bs' : List Nat} {k : Nat} (h : DFoot ρ G ids bs k) : DFoot ρ G (ids ++ ids') (bs ++ bs') k := by
 rcases h with ⟨i, hi, hk⟩ | ⟨b, hb, hk⟩
 ·exact .inl ⟨i, List.mem_append_left _ hi, hk⟩
 ·exact .inr ⟨b, List.mem_append_left _ hb, hk⟩
theorem DFoot.right {ids ids' bs bs' : List Nat} {k : Nat} (h : DFoot ρ G ids' bs' k) : DFoot ρ G (ids ++ ids') (bs ++ bs') k := by
 rcases h with ⟨i, hi, hk⟩ | ⟨b, hb, hk⟩
 ·exact .inl ⟨i, List.mem_append_right _ hi, hk⟩
 ·exact .inr ⟨b, List.mem_append_right _ hb, hk⟩
theorem decL_sound (hh : Hp E ρ H G w) {e : Shp} {f : List SV → Option (Dc e.D)} (hf : ∀ l d, f l = some d → (∀ p ∈ d.ob, p ()) → DcOk ρ w H G (fun Z a vs => Shp.rep w Z e a vs) l d)
    {l : List SV} {d : Dc (List e.D)} (h : decL H G e f l = some d) (ho : ∀ p ∈ d.ob, p ()) :
    ∃ v r, l = v :: r ∧ r = d.rest ∧ ∀ Z : Nat → Prop, (∀ k, DFoot ρ G d.ids d.bs k → Z k) → ∃ s : Sl, v.den ρ = s.val ∧ Rd w Z e.size (fun a b => Shp.rep w Z e a b) s (d.x ()) := by
 unfold decL at h
 split at h
 ·cases h
  refine ⟨_, _, rfl, rfl, fun Z hz => ⟨⟨none, 0, 0⟩, by simp only [SV.den, Sl.val], ⟨rfl, by simp, by simp, by simp⟩, [], by simp, .inl rfl, fun i hi => by simp at hi⟩⟩
 ·rename_i id r
  split at h
  ·rename_i g hg
   split at h
   ·rename_i e' x hc
    cases hq : shEq e' e with
    | false => rw [hq] at h; cases h
    | true =>
      rw [hq] at h
      have := shEq_eq hq
      subst this
      cases h
      obtain ⟨hm, hid⟩ := findE_mem hg
      have hr := FE.reads (hh.facts g hm) hc
      rw [hid] at hr
      refine ⟨_, _, rfl, rfl, fun Z hz => ⟨ρ.s id, by simp only [SV.den], ?_⟩⟩
      simp only [convL_self]
      have hz' : ∀ k, g.foot ρ k → Z k := fun k hk => hz k (.inl ⟨id, List.mem_cons_self, g, hg, hk⟩)
      exact hr.mono hz' (fun _ _ => rfl) fun a b h => Shp.rep_mono hz' (fun _ _ => rfl) e' a b h
   ·cases h
  ·cases h
 ·rename_i b o n cap r
  split at h
  ·rename_i cs hcs
   cases hq : nBle n cap && nBle cap 1000000 && nBle o (lenL cs) with
   | false => rw [hq] at h; cases h
   | true =>
     rw [hq] at h
     simp only [Bool.and_eq_true] at hq
     obtain ⟨⟨h1, h2⟩, h3⟩ := hq
     have h1 := nBle_le h1
     have h2 := nBle_le h2
     have h3 := nBle_le h3
     simp only [] at h
     split at h
     ·rename_i d1 hd1
      cases h
      obtain ⟨he, hme, hid, hce⟩ := mem_cellsE hcs
      obtain ⟨used, h4, h5, h6, h7⟩ := decN_sound (sz := e.size) (fun Z a vs h => Shp.rep_length e a vs h) hf n _ _ hd1 ho
      have hb := hh.block ρ (Agr.refl _ _ _) he hme
      rw [hid, hce] at hb
      refine ⟨_, _, rfl, rfl, fun Z hz => ⟨⟨some ⟨ρ.b b, o, none⟩, n, cap⟩, by simp only [SV.den, Sl.val], ⟨by simp [h5], by simp [h5, h1], by simp; omega, by simp [h5]; omega⟩, SV.dens ρ used, ?_, ?_, ?_⟩⟩
      ·rw [dens_length, h6, h5]
      ·have := Reads.of_block (w := w) (Z := Z) hb (hz _ (.inr ⟨b, List.mem_cons_self, rfl⟩)) o used.length
       simp only [List.toList_toArray] at this
       rw [← dens_drop, ← dens_take, ← dropL_eq, h4, List.take_left] at this
       exact this
      ·exact h7 Z fun k hk => hz k (by
         rcases hk with hk | ⟨b', hb', hk⟩
         ·exact .inl hk
         ·exact .inr ⟨b', List.mem_cons_of_mem _ hb', hk⟩)
     ·cases h
  ·cases h
 ·cases h
mutual
theorem dec_sound (hh : Hp E ρ H G w) : ∀ (e : Shp) (l : List SV) (d : Dc e.D), dec H G e l = some d → (∀ p ∈ d.ob, p ()) → DcOk ρ w H G (fun Z a vs => Shp.rep w Z e a vs) l d
 | .int k, l, d, h, ho => by
   simp only [dec] at h
   unfold decI at h
   split at h
   ·rename_i k' i r
    cases hk : nBeq (kNat k) (kNat k') with
    | false => rw [hk] at h; cases h
    | true =>
      rw [hk] at h
      have := kNat_inj hk
      subst this
      cases h
      exact ⟨[_], rfl, fun Z hz => by simp only [SV.dens, SV.den]; rfl⟩
   ·cases h
 | .byte, l, d, h, ho => by
   simp only [dec] at h
   unfold decY at h
   split at h
   ·rename_i k i r
    cases hk : nBeq (kNat .u8) (kNat k) with
    | false => rw [hk] at h; cases h
    | true =>
      rw [hk] at h
      have := kNat_inj hk
      subst this
      cases h
      obtain ⟨h0, h1⟩ := obB_spec ho
      refine ⟨[_], rfl, fun Z hz => ?_⟩
      simp only [SV.dens, SV.den]
      show _ = _
      rw [toB_toNat h0 h1]
   ·cases h
 | .bool, l, d, h, ho => by
   simp only [dec] at h
   unfold decB at h
   split at h
   ·cases h
    exact ⟨[_], rfl, fun Z hz => by simp only [SV.dens, SV.den]; rfl⟩
   ·cases h
 | .str, l, d, h, ho => by
   simp only [dec] at h
   unfold decS at h
   split at h
   ·split at h
    ·rename_i f hs
     cases h
     exact ⟨[_], rfl, fun Z hz => by simp only [SV.dens, strOf_den hs]; rfl⟩
    ·cases h
   ·cases h
 | .sl e, l, d, h, ho => by
   simp only [dec] at h
   obtain ⟨v, r, h1, h2, h3⟩ := decL_sound hh (fun l d h ho => dec_sound hh e l d h ho) h ho
   refine ⟨[v], by rw [h1, h2]; rfl, fun Z hz => ?_⟩
   obtain ⟨s, h4, h5⟩ := h3 Z hz
   exact ⟨s, by simp only [SV.dens, h4], h5⟩
 | .st fs, l, d, h, ho => by
   simp only [dec] at h
   exact decs_sound hh fs l d h ho
theorem decs_sound (hh : Hp E ρ H G w) : ∀ (fs : List Shp) (l : List SV) (d : Dc (Shp.Ds fs)), decs H G fs l = some d → (∀ p ∈ d.ob, p ()) → DcOk ρ w H G (fun Z a vs => Shp.reps w Z fs a vs) l d
 | [], l, d, h, ho => by
   simp only [decs] at h
   cases h
   exact ⟨[], rfl, fun Z hz => by simp only [SV.dens]; rfl⟩
 | f :: fs, l, d, h, ho => by
   simp only [decs] at h
   split at h
   ·rename_i d1 hd1
    split at h
    ·rename_i r1 hr1
     cases h
     simp only [catP_eq, catN_eq] at ho ⊢
     obtain ⟨u1, e1, h1⟩ := (dec_sound hh f _ _ hd1 fun p hp => ho p (List.mem_append_left _ hp)).ex
     obtain ⟨u2, e2, h2⟩ := (decs_sound hh fs _ _ hr1 fun p hp => ho p (List.mem_append_right _ hp)).ex
     refine ⟨u1 ++ u2, by rw [e1, e2, List.append_assoc], fun Z hz => ?_⟩
     rw [dens_append]
     exact ⟨_, _, rfl, h1 Z fun k hk => hz k hk.left, h2 Z fun k hk => hz k hk.right⟩
    ·cases h
   ·cases h
end
end decs
end
section
def lfV (al : List Nat) : Lf → Nat → Option (SV × List FE)
 | .int k f, _ => some (.int k (.t f), [])
 | .byte f, _ => some (.int .u8 (.t fun u => Int.ofNat (f u).toNat), [])
 | .bool f, _ => some (.bool (.t f), [])
 | .str f, _ => some (.str f, [])
 | .sl e f, n => match nBlt 0 e.size with
   | true => some (.fv n, [⟨n, false, 0, al, .rows e f⟩])
   | false => none
def catE : List FE → List FE → List FE
 | [], m => m
 | x :: l, m => x :: catE l m
theorem catE_eq (l m : List FE) : catE l m = l ++ m := by
 induction l with
 | nil => rfl
 | cons x l ih => simp [catE, ih]
def lfVs (al : List Nat) : List Lf → Nat → Option (List SV × List FE)
 | [], _ => some ([], [])
 | l :: r, n => match lfV al l n, lfVs al r (n + 1) with
   | some (v, a), some (vs, b) => some (v :: vs, catE a b)
   | _, _ => none
def freshL (lo hi : Nat) (H : List Ent) (G : List FE) : List FE → Bool
 | [] => true
 | f :: l => nBle lo f.id && nBlt f.id hi && freshE f.id H && freshG f.id G && freshG f.id l && freshL lo hi H G l
section leaf
variable {E : Env} {ρ : Nm} {w : World} {H : List Ent} {G : List FE}
structure Zok (E : Env) (ρ : Nm) (H : List Ent) (G : List FE) (w : World) (al : List Nat) (Z : Nat → Prop) : Prop where
 lt : ∀ k, Z k → k < w.heap.size
 H : ∀ e ∈ H, ¬ Z (ρ.b e.id)
 G : ∀ g ∈ G, ∀ k, g.excl ρ k → ¬ Z k
 al : ∀ k, Z k → E.B ≤ k ∨ ∃ j ∈ al, E.z0 j k
theorem Zok.agr {al : List Nat} {Z : Nat → Prop} (h : Zok E ρ H G w al Z) {ρ' : Nm} (hr : Agr ρ ρ' H G) : Zok E ρ' H G w al Z :=
 ⟨h.lt, fun e he => by rw [hr.1 e he]; exact h.H e he, fun g hg k hk => h.G g hg k (by rw [FE.excl_names (hr.2 g hg).1 (hr.2 g hg).2] at hk; exact hk), h.al⟩
theorem Zok.cons {al : List Nat} {Z : Nat → Prop} (h : Zok E ρ H G w al Z) {f : FE} (hf : f.own = false) (hc : ∀ T, f.c ≠ .codes T) : Zok E ρ H (f :: G) w al Z :=
 ⟨h.lt, h.H, fun g hg k hk => by
  rcases List.mem_cons.1 hg with rfl | hg
  ·exfalso
   unfold FE.excl at hk
   split at hk
   ·exact hk
   ·rw [hf] at hk; cases hk.1
   ·rename_i T hT; exact hc T hT
  ·exact h.G g hg k hk, h.al⟩
theorem Hp.share (h : Hp E ρ H G w) {f : FE} (hf : Fresh E f.id H G) (hown : f.own = false) {e : Shp} {x : Unit → List e.D} (hc : f.c = .rows e x) (hp : 0 < e.size) {Z : Nat → Prop} (hz : Zok E ρ H G w f.al Z) {s : Sl}
    (hr : Rd w Z e.size (fun a b => Shp.rep w Z e a b) s (x ())) :
    Hp E (ρ.setS f.id s Z) H (f :: G) w ∧ (∀ ρ'', Agr (ρ.setS f.id s Z) ρ'' H (f :: G) → Agr ρ ρ'' H G ∧ ρ''.s f.id = s) ∧ ∀ k, f.foot (ρ.setS f.id s Z) k → Z k := by
 have hs : (ρ.setS f.id s Z).s f.id = s := by simp [Nm.setS]
 have hzz : (ρ.setS f.id s Z).z f.id = Z := by simp [Nm.setS]
 have hfo : ∀ k, f.foot (ρ.setS f.id s Z) k → Z k := by
  intro k hk
  unfold FE.foot at hk
  rw [hc, hs, hzz] at hk
  rcases hk with hk | ⟨hk, y, hy, rfl⟩
  ·exact hk
  ·rw [hs] at hy
   have hn : 0 < s.n := by rcases hk with hk | hk; rw [hown] at hk; cases hk; exact hk
   obtain ⟨cs, h3, h4, _⟩ := hr.ex
   refine (h4.lt ?_ hy).2
   intro e0
   rw [e0] at h3
   have := hr.bd.len
   have hm : 0 < (x ()).length * e.size := Nat.mul_pos (by omega) hp
   simp at h3
   omega
 have hex : ∀ k, ¬ f.excl (ρ.setS f.id s Z) k := by
  intro k hk
  unfold FE.excl at hk
  rw [hc, hown] at hk
  cases hk.1
 have hfz : ∀ k, Z k → f.foot (ρ.setS f.id s Z) k := fun k hk => by unfold FE.foot; rw [hc, hzz]; exact .inl hk
 refine (fun q => ⟨q.1, q.2, hfo⟩) (h.add f hf s Z (fun T => by rw [hc]; simp) ?_ (fun e' x' he => by rw [hc] at he; cases he; exact hp) (fun e' he hk => hz.H e' he (hfo _ hk)) (fun g hg k => ⟨fun hk => absurd hk (hex k), fun hk hk2 => hz.G g hg k hk (hfo _ hk2)⟩) (fun k hk => absurd hk (hex k)) (fun k hk => hz.al k (hfo k hk)))
 unfold FE.holds
 rw [hc, hown, hs, hzz]
 exact ⟨hz.lt, hr.mono hfz (fun _ _ => rfl) fun a b h => Shp.rep_mono hfz (fun _ _ => rfl) e a b h⟩
theorem lfVs_sound {al : List Nat} {Z : Nat → Prop} : ∀ (L : List Lf) (n : Nat) (svs : List SV) (news : List FE) (vs : List Value) (ρ : Nm), lfVs al L n = some (svs, news) → Hp E ρ H G w → Zok E ρ H G w al Z →
    All2 (fun v l => Lf.rep w Z v l) vs L → freshL E.lo E.hi H G news = true →
    (∃ ρ', Hp E ρ' H (news ++ G) w ∧ (∀ ρ'', Agr ρ' ρ'' H (news ++ G) → Agr ρ ρ'' H G ∧ SV.dens ρ'' svs = vs) ∧ (∀ f ∈ news, ∀ k, f.foot ρ' k → Z k) ∧ ∀ g ∈ G, ρ'.z g.id = ρ.z g.id) ∧ ∀ f ∈ news, f.own = false ∧ ∀ T, f.c ≠ .codes T
 | [], n, svs, news, vs, ρ, h, hh, hz, ha, hf => by
   unfold lfVs at h
   cases h
   match vs, ha with
   | [], _ => exact ⟨⟨ρ, hh, fun ρ'' hr => ⟨hr, rfl⟩, fun f hf => (by cases hf), fun _ _ => rfl⟩, fun f hf => by cases hf⟩
   | _ :: _, ha => exact ha.elim
 | l :: r, n, svs, news, vs, ρ, h, hh, hz, ha, hf => by
   unfold lfVs at h
   match vs, ha with
   | [], ha => exact ha.elim
   | v :: vs, ha =>
   obtain ⟨hl, hta⟩ := ha
   split at h
   ·rename_i v1 a1 vs1 b1 h1 h2
    cases h
    rw [catE_eq] at hf ⊢
    have simple : a1 = [] → (∀ ρ, v1.den ρ = v) →
        ((∃ ρ', Hp E ρ' H (a1 ++ b1 ++ G) w ∧ (∀ ρ'', Agr ρ' ρ'' H (a1 ++ b1 ++ G) → Agr ρ ρ'' H G ∧ SV.dens ρ'' (v1 :: vs1) = v :: vs) ∧ (∀ f ∈ a1 ++ b1, ∀ k, f.foot ρ' k → Z k) ∧ ∀ g ∈ G, ρ'.z g.id = ρ.z g.id) ∧ ∀ f ∈ a1 ++ b1, f.own = false ∧ ∀ T, f.c ≠ .codes T) := by
     rintro rfl hv
     obtain ⟨⟨ρ', hh', hr', hfo⟩, ho⟩ := lfVs_sound r (n + 1) vs1 b1 vs ρ h2 hh hz hta hf
     refine ⟨⟨ρ', hh', fun ρ'' hr => ?_, hfo⟩, ho⟩
     obtain ⟨k1, k2⟩ := hr' ρ'' hr
     exact ⟨k1, by simp only [SV.dens, hv, k2]⟩
    cases l with
    | int k f =>
      simp only [lfV] at h1
      cases h1
      exact simple rfl fun ρ => by rw [show v = _ from hl]; simp only [SV.den, den_t]
    | byte f =>
      simp only [lfV] at h1
      cases h1
      exact simple rfl fun ρ => by rw [show v = _ from hl]; simp only [SV.den, den_t, Int.ofNat_eq_natCast]
    | bool f =>
      simp only [lfV] at h1
      cases h1
      exact simple rfl fun ρ => by rw [show v = _ from hl]; simp only [SV.den, bden_t]
    | str f =>
      simp only [lfV] at h1
      cases h1
      exact simple rfl fun ρ => by rw [show v = _ from hl]; simp only [SV.den]
    | sl e f =>
      simp only [lfV] at h1
      cases hp : nBlt 0 e.size with
      | false => rw [hp] at h1; cases h1
      | true =>
        rw [hp] at h1
        cases h1
        rw [nBlt_iff] at hp
        obtain ⟨s, rfl, hr⟩ := hl
        simp only [List.cons_append, List.nil_append] at hf ⊢
        simp only [freshL, Bool.and_eq_true, nBlt_iff] at hf
        obtain ⟨⟨⟨⟨⟨f1, f2⟩, f3⟩, f4⟩, f5⟩, f6⟩ := hf
        obtain ⟨⟨ρ', hh', hr', hfo⟩, ho⟩ := lfVs_sound r (n + 1) vs1 b1 vs ρ h2 hh hz hta f6
        have hagr := (hr' ρ' (Agr.refl _ _ _)).1
        have hz' : Zok E ρ' H (b1 ++ G) w al Z := by
         refine ⟨hz.lt, (hz.agr hagr).H, fun g hg k hk => ?_, hz.al⟩
         rcases List.mem_append.1 hg with hg | hg
         ·exfalso
          unfold FE.excl at hk
          split at hk
          ·exact hk
          ·rw [(ho g hg).1] at hk; cases hk.1
          ·rename_i T hT; exact (ho g hg).2 T hT
         ·exact (hz.agr hagr).G g hg k hk
        have hfr : Fresh E n H (b1 ++ G) := ⟨nBle_le f1, f2, freshE_mem f3, fun f hf => by
         rcases List.mem_append.1 hf with hf | hf
         ·exact freshG_mem f5 f hf
         ·exact freshG_mem f4 f hf, fun f hf => by
         rcases List.mem_append.1 hf with hf | hf
         ·exact freshG_nms f5 f hf
         ·exact freshG_nms f4 f hf⟩
        obtain ⟨k1, k2, k3⟩ := hh'.share (f := ⟨n, false, 0, al, .rows e f⟩) hfr rfl rfl hp hz' hr
        refine ⟨⟨_, k1, fun ρ'' hr => ?_, fun g hg k hk => ?_, fun g hg => ?_⟩, fun g hg => ?_⟩
        ·obtain ⟨j1, j2⟩ := k2 ρ'' hr
         obtain ⟨j3, j4⟩ := hr' ρ'' j1
         refine ⟨j3, ?_⟩
         simp only [SV.dens, SV.den, j4]
         rw [show ρ''.s n = s from j2]
        ·rcases List.mem_cons.1 hg with rfl | hg
         ·exact k3 k hk
         ·have hne : g.id ≠ n := hfr.G g (List.mem_append_left _ hg)
          refine hfo.1 g hg k ?_
          rw [FE.foot_names (ρ := ρ') (by rfl) (by simp [Nm.setS, hne]) (by simp [Nm.setS, hne])] at hk
          exact hk
        ·have hne : g.id ≠ n := freshG_mem f4 g hg
         rw [← hfo.2 g hg]
         simp [Nm.setS, hne]
        ·rcases List.mem_cons.1 hg with rfl | hg
         ·exact ⟨rfl, fun T => by simp⟩
         ·exact ho g hg
   ·cases h
end leaf
def takeF : Nat → List Lf → List Lf
 | 0, _ => []
 | _, [] => []
 | n + 1, x :: l => x :: takeF n l
def dropF : Nat → List Lf → List Lf
 | 0, l => l
 | _, [] => []
 | n + 1, _ :: l => dropF n l
def lenF : List Lf → Nat
 | [] => 0
 | _ :: l => lenF l + 1
theorem takeF_eq (n : Nat) (l : List Lf) : takeF n l = l.take n := by
 induction n generalizing l with
 | zero => simp [takeF]
 | succ n ih => cases l <;> simp [takeF, ih]
theorem dropF_eq (n : Nat) (l : List Lf) : dropF n l = l.drop n := by
 induction n generalizing l with
 | zero => simp [dropF]
 | succ n ih => cases l <;> simp [dropF, ih]
theorem lenF_eq (l : List Lf) : lenF l = l.length := by
 induction l with
 | nil => rfl
 | cons x l ih => simp [lenF, ih]
theorem All2.take {α β : Type} {r : α → β → Prop} (n : Nat) : ∀ {l : List α} {m : List β}, All2 r l m → All2 r (l.take n) (m.take n) := by
 induction n with
 | zero => intro l m _; trivial
 | succ n ih => intro l m h; cases l <;> cases m <;> first | exact h.elim | trivial | exact ⟨h.1, ih h.2⟩
theorem All2.drop {α β : Type} {r : α → β → Prop} (n : Nat) : ∀ {l : List α} {m : List β}, All2 r l m → All2 r (l.drop n) (m.drop n) := by
 induction n with
 | zero => intro l m h; exact h
 | succ n ih => intro l m h; cases l <;> cases m <;> first | exact h.elim | trivial | exact ih h.2
def elemAt (e : Shp) (x : Unit → List e.D) (i : IE) : Unit → e.D := fun u => (x u).getD i.den.toNat e.dflt
def obLt (e : Shp) (x : Unit → List e.D) (i : IE) : Unit → Prop := fun u => 0 ≤ i.den ∧ i.den < Int.ofNat (x u).length
def loadE (T : TT) (G : List FE) (n : Nat) (t : TypeId) (id : Nat) (i : IE) (s o : Nat) : Option (PR × List FE) :=
 match findE G id, TT.look T t with
 | some f, some j => match f.c with
   | .rows e x => match nBeq s e.size with
     | true => match j.sh.agg with
       | true => match nBle (o + j.size) (lenF (leaves e (elemAt e x i))) with
         | true => match lfVs f.al (takeF j.size (dropF o (leaves e (elemAt e x i)))) n with
           | some (vs, news) => some (⟨some (obLt e x i), .agg vs⟩, news)
           | none => none
         | false => none
       | false => match takeF 1 (dropF o (leaves e (elemAt e x i))) with
         | [l] => match lfVs f.al [l] n with
           | some ([v], news) => some (⟨some (obLt e x i), v⟩, news)
           | _ => none
         | _ => none
     | false => none
   | _ => none
 | _, _ => none
def lenE (T : TT) (G : List FE) (t : TypeId) (id : Nat) : Option PR :=
 match TT.look T t, findE G id with
 | some ⟨.slice _, _, _⟩, some f => match f.c with
   | .rows e x => some ⟨none, .int .i64 (.t fun u => Int.ofNat (x u).length)⟩
   | _ => none
 | _, _ => none
def indexE (T : TT) (G : List FE) (t : TypeId) (id : Nat) (i : IE) : Option PR :=
 match TT.look T t, findE G id with
 | some ⟨.slice te, _, _⟩, some f => match TT.look T te, f.c with
   | some j, .rows e x => match nBeq j.size e.size with
     | true => some ⟨some (obLt e x i), .fp id i e.size 0⟩
     | false => none
   | _, _ => none
 | _, _ => none
def entV (T : TT) (G : List FE) (n : Nat) (ev : Operand → SV) : Op → Option (PR × List FE)
 | .load t x => match ev x with
   | .fp id i s o => loadE T G n t id i s o
   | _ => none
 | .nilCheck x => match ev x with
   | .fp id i s o => match findE G id with
     | some f => match f.c with
       | .rows e y => match nBeq s e.size with
         | true => some (⟨some (obLt e y i), .fp id i s o⟩, [])
         | false => none
       | _ => none
     | none => none
   | _ => none
 | .fieldAddr t x f => match TT.look T t, ev x with
   | some ⟨.struct fs, _, _⟩, .fp id i s o => match nthF fs f, findE G id with
     | some (off, ft), some g => match TT.look T ft, g.c with
       | some j, .rows e y => match nBeq s e.size && !nBeq j.size 0 with
         | true => some (⟨some (obLt e y i), .fp id i s (o + off)⟩, [])
         | false => none
       | _, _ => none
     | _, _ => none
   | _, _ => none
 | .indexAddr t x i => match ev x, ev i with
   | .fv id, .int _ i => (indexE T G t id i).map fun r => (r, [])
   | .fp id i s o, .int _ (.c (.ofNat m)) => match TT.look T t, findE G id with
     | some ⟨.array n e', _, _⟩, some g => match TT.look T e', g.c with
       | some j, .rows e y => match nBeq s e.size && nBlt 1 n && nBlt m n with
         | true => some (⟨some (obLt e y i), .fp id i s (o + m * j.size)⟩, [])
         | false => none
       | _, _ => none
     | _, _ => none
   | _, _ => none
 | .call c => match c.callee with
   | .builtin .len => match evs ev c.args.toList, c.argTypes.toList with
     | [.fv id], [t] => (lenE T G t id).map fun r => (r, [])
     | _, _ => none
   | _ => none
 | _ => none
section ent
variable {E : Env} {ρ : Nm} {w : World} {H : List Ent} {G : List FE} {P : Program} {T : TT}
theorem at_elem {f : FE} (hf : f.holds ρ w) {e : Shp} {x : Unit → List e.D} (hc : f.c = .rows e x) (hp : 0 < e.size) {i : Int} (h0 : 0 ≤ i) (h1 : i < (x ()).length) :
    ∃ b off cs, (∀ o, (ρ.s f.id).at (i.toNat * e.size + o) = some ⟨b, off + (i.toNat * e.size + o), none⟩) ∧ (ρ.s f.id).a = some ⟨b, off, none⟩ ∧ f.foot ρ b ∧ (∀ j v, cs[j]? = some v → w.cell? ⟨b, off + j, none⟩ = some v) ∧
      Shp.rep w (f.foot ρ) e ((x ()).getD i.toNat e.dflt) (chunk cs i.toNat e.size) ∧ (f.own = true → Shp.rep w (ρ.z f.id) e ((x ()).getD i.toNat e.dflt) (chunk cs i.toNat e.size)) := by
 have hlt : i.toNat < (x ()).length := by omega
 have hg : (x ()).getD i.toNat e.dflt = (x ())[i.toNat] := by simp [List.getD_eq_getElem?_getD, List.getElem?_eq_getElem hlt]
 have main : ∀ cs : List Value, cs.length = (x ()).length * e.size → Reads w (f.foot ρ) (ρ.s f.id).a cs → ∃ b off, (∀ o, (ρ.s f.id).at (i.toNat * e.size + o) = some ⟨b, off + (i.toNat * e.size + o), none⟩) ∧ (ρ.s f.id).a = some ⟨b, off, none⟩ ∧ f.foot ρ b ∧ (∀ j v, cs[j]? = some v → w.cell? ⟨b, off + j, none⟩ = some v) := by
  intro cs hl hr
  rcases hr with h | ⟨b, off, ha, hb, hcell⟩
  ·exfalso
   rw [h] at hl
   have : 0 < (x ()).length * e.size := Nat.mul_pos (by omega) hp
   simp at hl
   omega
  ·exact ⟨b, off, fun o => by simp [Sl.at, ha], ha, hb, hcell⟩
 have hrd := FE.reads hf hc
 cases ho : f.own with
 | false =>
   obtain ⟨cs, h3, h4, h5⟩ := hrd.ex
   obtain ⟨b, off, k1, k2, k3, k4⟩ := main cs h3 h4
   exact ⟨b, off, cs, k1, k2, k3, k4, by rw [hg]; exact h5 _ hlt, fun h => by cases h⟩
 | true =>
   unfold FE.holds at hf
   rw [hc] at hf
   obtain ⟨_, h2⟩ := hf
   rw [ho] at h2
   obtain ⟨cs, h3, h4⟩ := h2.ex
   have hz : ∀ k, ρ.z f.id k → f.foot ρ k := fun k hk => by unfold FE.foot; rw [hc]; exact .inl hk
   obtain ⟨b, off, k1, k2, k3, k4⟩ := main cs h3.1 (ownsRow_reads h3 fun y hy => by unfold FE.foot; rw [hc]; exact .inr ⟨.inl ho, y, hy, rfl⟩)
   refine ⟨b, off, cs, k1, k2, k3, k4, by rw [hg]; exact Shp.rep_mono hz (fun _ _ => rfl) e _ _ (h4 _ hlt), fun _ => by rw [hg]; exact h4 _ hlt⟩
theorem Hp.zok (hh : Hp E ρ H G w) {f : FE} (hf : f ∈ G) {e : Shp} {x : Unit → List e.D} (hc : f.c = .rows e x) (hex : ∀ g ∈ G, ∀ k, g.excl ρ k → ¬ f.foot ρ k ∨ g = f) : Zok E ρ H G w f.al (match f.own with | true => ρ.z f.id | false => f.foot ρ) := by
 have hz : ∀ k, ρ.z f.id k → f.foot ρ k := fun k hk => by unfold FE.foot; rw [hc]; exact .inl hk
 cases ho : f.own with
 | false =>
   refine ⟨fun k hk => hh.foot_lt hf hk, fun e' he => hh.apart e' he f hf, fun g hg k hk hk2 => ?_, fun k hk => hh.al f hf k hk⟩
   rcases hex g hg k hk with h | rfl
   ·exact h hk2
   ·unfold FE.excl at hk
    rw [hc, ho] at hk
    cases hk.1
 | true =>
   refine ⟨fun k hk => hh.foot_lt hf (hz k hk), fun e' he hk => hh.apart e' he f hf (hz _ hk), fun g hg k hk hk2 => ?_, fun k hk => hh.al f hf k (hz k hk)⟩
   rcases hex g hg k hk with h | rfl
   ·exact h (hz k hk2)
   ·have hfa := hh.facts _ hf
    unfold FE.holds at hfa
    rw [hc] at hfa
    have h2 := hfa.2
    rw [ho] at h2
    unfold FE.excl at hk
    rw [hc] at hk
    obtain ⟨_, y, hy, rfl⟩ := hk
    exact h2.top y hy hk2
theorem Hp.sep (hh : Hp E ρ H G w) {f : FE} (hf : f ∈ G) : ∀ g ∈ G, ∀ k, g.excl ρ k → ¬ f.foot ρ k ∨ g = f := by
 intro g hg k hk
 obtain ⟨i, hi, rfl⟩ := List.getElem_of_mem hf
 obtain ⟨j, hj, rfl⟩ := List.getElem_of_mem hg
 have hp := List.pairwise_iff_getElem.1 hh.alone
 rcases Nat.lt_trichotomy i j with h | h | h
 ·exact .inl ((hp i j hi hj h k).2 hk)
 ·subst h; exact .inr rfl
 ·exact .inl ((hp j i hj hi h k).1 hk)
end ent
end
section
section ent
variable {E : Env} {ρ : Nm} {w : World} {H : List Ent} {G Gl : List FE} {P : Program} {T : TT}
theorem run_loadVar_cells {t : TypeId} {i : TI} (h : TIOk P t i) (w : World) (b o : Nat) (vs : List Value) (ha : i.sh.agg = true) (hl : vs.length = i.size) (hc : ∀ j v, vs[j]? = some v → w.cell? ⟨b, o + j, none⟩ = some v) :
    (loadVar t ⟨b, o, none⟩).run P w = .ok (.agg vs.toArray) w := by
 have hr : (loadCells ⟨b, o, none⟩ i.size).run P w = .ok vs.toArray w := by
  have := run_loadCells_list (P := P) w ⟨b, o, none⟩ vs (fun j v hv => by rw [add_plain]; exact hc j v hv)
  rw [hl] at this
  exact this
 simp [loadVar, Sem.run_bind, h.isAgg, h.sizeOf, ha, hr]
theorem run_loadVar_cell {t : TypeId} {i : TI} (h : TIOk P t i) (w : World) (b o : Nat) (v : Value) (ha : i.sh.agg = false) (hc : w.cell? ⟨b, o, none⟩ = some v) :
    (loadVar t ⟨b, o, none⟩).run P w = .ok v w := by
 simp [loadVar, Sem.run_bind, h.isAgg, ha, hc]
theorem chunk_get {cs : List Value} {i sz j : Nat} {v : Value} (h : (chunk cs i sz)[j]? = some v) : cs[i * sz + j]? = some v ∧ j < sz := by
 unfold chunk at h
 rw [List.getElem?_take] at h
 split at h
 ·rename_i hj
  rw [List.getElem?_drop] at h
  exact ⟨h, hj⟩
 ·cases h
theorem part_get {cs : List Value} {i sz o m j : Nat} {v : Value} (h : (((chunk cs i sz).drop o).take m)[j]? = some v) : cs[i * sz + (o + j)]? = some v := by
 rw [List.getElem?_take] at h
 split at h
 ·rw [List.getElem?_drop] at h
  exact (chunk_get h).1
 ·cases h
theorem cell_same {w w' : World} {b o : Nat} (h : w'.heap[b]? = w.heap[b]?) {v : Value} (hc : w.cell? ⟨b, o, none⟩ = some v) : w'.cell? ⟨b, o, none⟩ = some v := by
 rw [World.cell?_of_block (w := w) h]; exact hc
theorem loadE_sound (hT : TT.ok P T) (hh : Hp E ρ H G w) (hsub : ∀ f ∈ Gl, f ∈ G) {n : Nat} {t : TypeId} {id : Nat} {i : IE} {s o : Nat} {r : PR} {news : List FE} (h : loadE T Gl n t id i s o = some (r, news)) (ho : obP r.ob) (hfr : freshL E.lo E.hi H G news = true) :
    ∃ ρ', Hp E ρ' H (news ++ G) w ∧ (∀ f ∈ news, f.own = false ∧ (∀ T, f.c ≠ .codes T) ∧ ∀ k, f.foot ρ' k → ∃ g ∈ Gl, g.foot ρ k) ∧ (∀ g ∈ G, ρ'.z g.id = ρ.z g.id) ∧ ∀ ρ'', Agr ρ' ρ'' H (news ++ G) → Agr ρ ρ'' H G ∧
      ∀ w', (∀ f ∈ Gl, ∀ k, f.foot ρ k → w'.heap[k]? = w.heap[k]?) → (Instr.loadAt t ((SV.fp id i s o).den ρ'')).run P w' = .ok (r.v.den ρ'') w' := by
 unfold loadE at h
 split at h
 ·rename_i f j hf hj
  obtain ⟨hml, hid⟩ := findE_mem hf
  have hm := hsub f hml
  have hj := TT.look_ok hT hj
  split at h
  ·rename_i e x hc
   cases hs : nBeq s e.size with
   | false => rw [hs] at h; cases h
   | true =>
     rw [hs] at h
     have hs := nBeq_eq hs
     subst hs
     simp only [] at h
     have hp := hh.pos f hm e x hc
     have obs : obLt e x i () → ∃ b off cs, (∀ o, (ρ.s id).at (i.den.toNat * e.size + o) = some ⟨b, off + (i.den.toNat * e.size + o), none⟩) ∧ f.foot ρ b ∧ (∀ j v, cs[j]? = some v → w.cell? ⟨b, off + j, none⟩ = some v) ∧
         All2 (fun v l => Lf.rep w (match f.own with | true => ρ.z f.id | false => f.foot ρ) v l) (chunk cs i.den.toNat e.size) (leaves e (elemAt e x i)) := by
      rintro ⟨h0, h1⟩
      obtain ⟨b, off, cs, k1, _, k2, k3, k4, k5⟩ := at_elem (hh.facts f hm) hc hp h0 h1
      rw [hid] at k1
      refine ⟨b, off, cs, k1, k2, k3, ?_⟩
      cases hown : f.own with
      | false => exact (rep_leaves e (elemAt e x i) _).1 k4
      | true => exact (rep_leaves e (elemAt e x i) _).1 (k5 hown)
     have hz := hh.zok hm hc (hh.sep hm)
     have zf : ∀ k, (match f.own with | true => ρ.z f.id | false => f.foot ρ) k → f.foot ρ k := by
      intro k hk
      cases ho : f.own with
      | false => rw [ho] at hk; exact hk
      | true => rw [ho] at hk; unfold FE.foot; rw [hc]; exact .inl hk
     have agr_id : ∀ ρ'', Agr ρ ρ'' H G → ρ''.s id = ρ.s id := fun ρ'' hr => by rw [← hid]; exact (hr.2 f hm).2
     cases ha : j.sh.agg with
     | true =>
       rw [ha] at h
       simp only [] at h
       cases hl : nBle (o + j.size) (lenF (leaves e (elemAt e x i))) with
       | false => rw [hl] at h; cases h
       | true =>
         rw [hl] at h
         simp only [] at h
         have hl := nBle_le hl
         rw [lenF_eq] at hl
         split at h
         ·rename_i vs nw hv
          cases h
          obtain ⟨b, off, cs, k1, k2, k3, k4⟩ := obs ho
          rw [takeF_eq, dropF_eq] at hv
          have hlen : (((chunk cs i.den.toNat e.size).drop o).take j.size).length = j.size := by
           rw [List.length_take, List.length_drop, k4.length]; omega
          obtain ⟨⟨ρ', q1, q2, q6, q7⟩, q3⟩ := lfVs_sound _ n vs news _ ρ hv hh hz ((k4.drop o).take j.size) hfr
          refine ⟨ρ', q1, fun g hg => ⟨(q3 g hg).1, (q3 g hg).2, fun k hk => ⟨f, hml, zf k (q6 g hg k hk)⟩⟩, q7, fun ρ'' hr => ⟨(q2 ρ'' hr).1, fun w' hw' => ?_⟩⟩
          obtain ⟨q4, q5⟩ := q2 ρ'' hr
          simp only [SV.den, agr_id ρ'' q4, k1 o, Instr.loadAt, Instr.sureAddr, Sem.run_bind, Sem.run_pure, Result.andThen_ok, q5]
          refine run_loadVar_cells hj w' b _ _ ha hlen fun q v hv => ?_
          rw [Nat.add_assoc, Nat.add_assoc]
          exact cell_same (hw' f hml b k2) (k3 _ _ (part_get hv))
         ·cases h
     | false =>
       rw [ha] at h
       simp only [] at h
       split at h
       ·rename_i l hl
        split at h
        ·rename_i v nw hv
         cases h
         obtain ⟨b, off, cs, k1, k2, k3, k4⟩ := obs ho
         have k5 := (k4.drop o).take 1
         rw [takeF_eq, dropF_eq] at hl
         rw [hl] at k5
         obtain ⟨⟨ρ', q1, q2, q6, q7⟩, q3⟩ := lfVs_sound _ n _ news _ ρ hv hh hz k5 hfr
         refine ⟨ρ', q1, fun g hg => ⟨(q3 g hg).1, (q3 g hg).2, fun k hk => ⟨f, hml, zf k (q6 g hg k hk)⟩⟩, q7, fun ρ'' hr => ⟨(q2 ρ'' hr).1, fun w' hw' => ?_⟩⟩
         obtain ⟨q4, q5⟩ := q2 ρ'' hr
         simp only [SV.dens] at q5
         simp only [SV.den, agr_id ρ'' q4, k1 o, Instr.loadAt, Instr.sureAddr, Sem.run_bind, Sem.run_pure, Result.andThen_ok]
         refine run_loadVar_cell hj w' b _ _ ha ?_
         refine cell_same (hw' f hml b k2) (k3 _ _ ?_)
         refine part_get (m := 1) (j := 0) (o := o) ?_
         rw [← q5]
         rfl
        ·cases h
       ·cases h
  ·cases h
 ·cases h
theorem Hp.same (hh : Hp E ρ H G w) {v : SV} {Q : Nm → World → Prop} (h : ∀ ρ'', Agr ρ ρ'' H G → ∀ w', Q ρ'' w') :
    ∃ ρ', Hp E ρ' H ([] ++ G) w ∧ (∀ f ∈ ([] : List FE), f.own = false ∧ (∀ T, f.c ≠ .codes T) ∧ ∀ k, f.foot ρ' k → ∃ g ∈ Gl, g.foot ρ k) ∧ (∀ g ∈ G, ρ'.z g.id = ρ.z g.id) ∧ ∀ ρ'', Agr ρ' ρ'' H ([] ++ G) → Agr ρ ρ'' H G ∧ ∀ w', (∀ f ∈ Gl, ∀ k, f.foot ρ k → w'.heap[k]? = w.heap[k]?) → Q ρ'' w' :=
 ⟨ρ, hh, fun f hf => (by cases hf), fun _ _ => rfl, fun ρ'' hr => ⟨hr, fun w' _ => h ρ'' hr w'⟩⟩
theorem ent_sound (hT : TT.ok P T) (hh : Hp E ρ H G w) (hsub : ∀ f ∈ Gl, f ∈ G) {n : Nat} {ev : Operand → SV} {op : Op} {r : PR} {news : List FE} (h : entV T Gl n ev op = some (r, news)) (ho : obP r.ob) (hfr : freshL E.lo E.hi H G news = true) (o : Oper) (hop : o.op = op) :
    ∃ ρ', Hp E ρ' H (news ++ G) w ∧ (∀ f ∈ news, f.own = false ∧ (∀ T, f.c ≠ .codes T) ∧ ∀ k, f.foot ρ' k → ∃ g ∈ Gl, g.foot ρ k) ∧ (∀ g ∈ G, ρ'.z g.id = ρ.z g.id) ∧ ∀ ρ'', Agr ρ' ρ'' H (news ++ G) → Agr ρ ρ'' H G ∧
      ∀ w', (∀ f ∈ Gl, ∀ k, f.foot ρ k → w'.heap[k]? = w.heap[k]?) → ∀ A : Act, (∀ x, A.eval x = (ev x).den ρ'') → (execOp A.eval o).run P w' = .ok (.value (r.v.den ρ'')) w' := by
 unfold entV at h
 split at h
 ·rename_i t x
  split at h
  ·rename_i id i s o' hx
   obtain ⟨ρ', h1, h2, hz, h3⟩ := loadE_sound hT hh hsub h ho hfr
   refine ⟨ρ', h1, h2, hz, fun ρ'' hr => ⟨(h3 ρ'' hr).1, fun w' hw' A hA => ?_⟩⟩
   unfold execOp
   rw [hop]
   simp only [hA, hx, Sem.run_bind, (h3 ρ'' hr).2 w' hw', Result.andThen_ok, Sem.run_pure]
  ·cases h
 ·rename_i x
  split at h
  ·rename_i id i s o' hx
   split at h
   ·rename_i f hf
    split at h
    ·rename_i e y hc
     cases hs : nBeq s e.size with
     | false => rw [hs] at h; cases h
     | true =>
       rw [hs] at h
       have hs := nBeq_eq hs
       subst hs
       cases h
       obtain ⟨hml, hid⟩ := findE_mem hf
       have hm := hsub _ hml
       obtain ⟨b, off, cs, k1, _⟩ := at_elem (hh.facts f hm) hc (hh.pos f hm e y hc) ho.1 ho.2
       refine hh.same (v := .bool (.c true)) fun ρ'' hr w' A hA => ?_
       unfold execOp
       rw [hop]
       have : ρ''.s id = ρ.s id := by rw [← hid]; exact (hr.2 f hm).2
       rw [hid] at k1
       simp only [hA, hx, SV.den, this, k1 o']
       simp [Sem.run_bind]
    ·cases h
   ·cases h
  ·cases h
 ·rename_i t x f
  split at h
  ·rename_i fs sz z id i s o' hl hx
   split at h
   ·rename_i off ft g hnf hg
    split at h
    ·rename_i j e y hj hc
     cases hs : (nBeq s e.size && !nBeq j.size 0) with
     | false => rw [hs] at h; cases h
     | true =>
       rw [hs] at h
       simp only [Bool.and_eq_true, Bool.not_eq_true'] at hs
       obtain ⟨hs, hz⟩ := hs
       have hs := nBeq_eq hs
       subst hs
       cases h
       obtain ⟨hml, hid⟩ := findE_mem hg
       have hm := hsub _ hml
       obtain ⟨b, off', cs, k1, _⟩ := at_elem (hh.facts g hm) hc (hh.pos g hm e y hc) ho.1 ho.2
       refine hh.same (v := .bool (.c true)) fun ρ'' hr w' A hA => ?_
       unfold execOp
       rw [hop]
       have : ρ''.s id = ρ.s id := by rw [← hid]; exact (hr.2 g hm).2
       rw [hid] at k1
       have hfa := run_fieldAt hT hl hnf hj hz w' b (off' + (i.den.toNat * e.size + o'))
       simp only [hA, hx, SV.den, this, k1 o', Sem.run_bind, hfa, Result.andThen_ok, Sem.run_pure]
       rw [show i.den.toNat * e.size + (o' + off) = i.den.toNat * e.size + (o' + off) from rfl, k1 (o' + off)]
       simp only [Nat.add_assoc]
    ·cases h
   ·cases h
  ·cases h
 ·rename_i t x i
  split at h
  ·rename_i id k i' hx hi
   rw [Option.map_eq_some_iff] at h
   obtain ⟨r', hr', h⟩ := h
   cases h
   unfold indexE at hr'
   split at hr'
   ·rename_i te sz z f hl hf
    split at hr'
    ·rename_i j e y hj hc
     cases hs : nBeq j.size e.size with
     | false => rw [hs] at hr'; cases hr'
     | true =>
       rw [hs] at hr'
       have hs := nBeq_eq hs
       cases hr'
       obtain ⟨hml, hid⟩ := findE_mem hf
       have hm := hsub _ hml
       obtain ⟨b, off, cs, k1, k2, _⟩ := at_elem (hh.facts f hm) hc (hh.pos f hm e y hc) ho.1 ho.2
       have hbd := (FE.reads (hh.facts f hm) hc).bd
       obtain ⟨d, hd, hsd⟩ := (TT.look_ok hT hl).under
       cases d <;> simp [Sh.of] at hsd
       subst hsd
       refine hh.same (v := .bool (.c true)) fun ρ'' hr w' A hA => ?_
       unfold execOp
       rw [hop]
       have hsi : ρ''.s id = ρ.s id := by rw [← hid]; exact (hr.2 f hm).2
       rw [hid] at k1 k2 hbd
       have hlt : i'.den < ((ρ.s id).n : Int) := by rw [hbd.len]; exact ho.2
       have hrun := run_indexAt (P := P) (TT.look_ok hT hj) hd (x := .slice (some ⟨b, off, none⟩) (ρ.s id).n (ρ.s id).cap) (n := (ρ.s id).n) (b := b) (o := off) (.inr ⟨rfl, _, rfl⟩) (k := k) (i := i'.den) ho.1 hlt w'
       simp only [hA, hx, hi, SV.den, hsi, Sl.val, k2, Sem.run_bind, hrun, Result.andThen_ok, Sem.run_pure]
       rw [k1 0, hs, Nat.add_zero]
    ·cases hr'
   ·cases hr'
  ·rename_i id i' s o' k m hx hi
   split at h
   ·rename_i n e' sz z g hl hg
    split at h
    ·rename_i j e y hj hc
     cases hs : (nBeq s e.size && nBlt 1 n && nBlt m n) with
     | false => rw [hs] at h; cases h
     | true =>
       rw [hs] at h
       simp only [Bool.and_eq_true, nBlt_iff] at hs
       obtain ⟨⟨hs, hn1⟩, hmn⟩ := hs
       have hs := nBeq_eq hs
       subst hs
       cases h
       obtain ⟨hml, hid⟩ := findE_mem hg
       have hm := hsub _ hml
       obtain ⟨b, off', cs, k1, _⟩ := at_elem (hh.facts g hm) hc (hh.pos g hm e y hc) ho.1 ho.2
       obtain ⟨d, hd, hsd⟩ := (TT.look_ok hT hl).under
       cases d <;> simp [Sh.of] at hsd
       obtain ⟨rfl, rfl⟩ := hsd
       refine hh.same (v := .bool (.c true)) fun ρ'' hr w' A hA => ?_
       unfold execOp
       rw [hop]
       have : ρ''.s id = ρ.s id := by rw [← hid]; exact (hr.2 g hm).2
       rw [hid] at k1
       have hrun := run_indexAt (P := P) (TT.look_ok hT hj) hd (.inl ⟨rfl, rfl, hn1⟩) (b := b) (o := off' + (i'.den.toNat * e.size + o')) (k := k) (i := (m : Int)) (by omega) (by omega) w'
       simp only [hA, hx, hi, SV.den, den_c, this, k1 o', Sem.run_bind, Int.ofNat_eq_natCast, hrun, Result.andThen_ok, Sem.run_pure]
       rw [k1 (o' + m * j.size)]
       simp only [Int.toNat_natCast, Nat.add_assoc]
    ·cases h
   ·cases h
  ·cases h
 ·rename_i c
  split at h
  ·rename_i hb
   split at h
   ·rename_i id t hargs hts
    rw [Option.map_eq_some_iff] at h
    obtain ⟨r', hr', h⟩ := h
    cases h
    unfold lenE at hr'
    split at hr'
    ·rename_i te sz z f hl hf
     split at hr'
     ·rename_i e y hc
      cases hr'
      obtain ⟨hml, hid⟩ := findE_mem hf
      have hm := hsub _ hml
      have hbd := (FE.reads (hh.facts f hm) hc).bd
      obtain ⟨d, hd, hsd⟩ := (TT.look_ok hT hl).under
      cases d <;> simp [Sh.of] at hsd
      subst hsd
      refine hh.same (v := .bool (.c true)) fun ρ'' hr w' A hA => ?_
      unfold execOp
      rw [hop]
      have hsi : ρ''.s id = ρ.s id := by rw [← hid]; exact (hr.2 f hm).2
      have e1 : c.args.map A.eval = (SV.dens ρ'' (evs ev c.args.toList)).toArray := by
       rw [← evs_den hA]; apply Array.ext'; simp
      rw [hid] at hbd
      rw [hargs] at e1
      have e2 : c.argTypes = #[t] := by apply Array.ext'; simp [hts]
      simp only [resolve, hb, Sem.run_bind, Sem.run_pure, Result.andThen_ok, invoke, e1, e2, SV.dens, SV.den, hsi, Sl.val]
      simp [builtin, Builtin.len_, run_underlying hd, goInt, den_t, hbd.len]
     ·cases hr'
    ·cases hr'
   ·cases h
  ·cases h
 ·cases h
end ent
end
end Go.Proofs.YtkifmppmfkpfbaaGreat.V
