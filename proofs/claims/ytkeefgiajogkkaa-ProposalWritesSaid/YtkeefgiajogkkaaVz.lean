/- The walker: reading what slices name, and what is made of it. -/
import Derived.Test.YtkeefgiajogkkaaVy
set_option linter.unusedVariables false
set_option linter.unusedSimpArgs false
namespace Go.Proofs.Ytkeefgiajogkkaa.V
open Go.RowKit
mutual
def shEq : Shp → Shp → Bool
 | .int k, .int k' => nBeq (kNat k) (kNat k')
 | .byte, .byte => true
 | .bool, .bool => true
 | .str, .str => true
 | .sl e, .sl e' => shEq e e'
 | .st fs, .st fs' => shEqs fs fs'
 | _, _ => false
def shEqs : List Shp → List Shp → Bool
 | [], [] => true
 | f :: fs, f' :: fs' => shEq f f' && shEqs fs fs'
 | _, _ => false
end
mutual
theorem shEq_eq : ∀ {e e' : Shp}, shEq e e' = true → e = e'
 | .int k, .int k', h => by rw [kNat_inj h]
 | .byte, .byte, _ => rfl
 | .bool, .bool, _ => rfl
 | .str, .str, _ => rfl
 | .sl e, .sl e', h => by rw [shEq_eq (e := e) (e' := e') h]
 | .st fs, .st fs', h => by rw [shEqs_eq (fs := fs) (fs' := fs') h]
 | .int _, .byte, h | .int _, .bool, h | .int _, .str, h | .int _, .sl _, h | .int _, .st _, h => by simp [shEq] at h
 | .byte, .int _, h | .byte, .bool, h | .byte, .str, h | .byte, .sl _, h | .byte, .st _, h => by simp [shEq] at h
 | .bool, .int _, h | .bool, .byte, h | .bool, .str, h | .bool, .sl _, h | .bool, .st _, h => by simp [shEq] at h
 | .str, .int _, h | .str, .byte, h | .str, .bool, h | .str, .sl _, h | .str, .st _, h => by simp [shEq] at h
 | .sl _, .int _, h | .sl _, .byte, h | .sl _, .bool, h | .sl _, .str, h | .sl _, .st _, h => by simp [shEq] at h
 | .st _, .int _, h | .st _, .byte, h | .st _, .bool, h | .st _, .str, h | .st _, .sl _, h => by simp [shEq] at h
theorem shEqs_eq : ∀ {fs fs' : List Shp}, shEqs fs fs' = true → fs = fs'
 | [], [], _ => rfl
 | f :: fs, f' :: fs', h => by
   simp only [shEqs, Bool.and_eq_true] at h
   rw [shEq_eq h.1, shEqs_eq h.2]
 | [], _ :: _, h => by simp [shEqs] at h
 | _ :: _, [], h => by simp [shEqs] at h
end
mutual
def Shp.conv : (e e' : Shp) → e.D → e'.D
 | .int _, .int _, x => x
 | .byte, .byte, x => x
 | .bool, .bool, x => x
 | .str, .str, x => x
 | .sl e, .sl e', x => x.map (fun a => Shp.conv e e' a)
 | .st fs, .st fs', x => Shp.convs fs fs' x
 | _, e', _ => e'.dflt
def Shp.convs : (fs fs' : List Shp) → Shp.Ds fs → Shp.Ds fs'
 | [], [], _ => ()
 | f :: fs, f' :: fs', x => (Shp.conv f f' x.1, Shp.convs fs fs' x.2)
 | _, fs', _ => Shp.dflts fs'
end
mutual
theorem conv_self : ∀ (e : Shp) (x : e.D), Shp.conv e e x = x
 | .int _, _ => rfl
 | .byte, _ => rfl
 | .bool, _ => rfl
 | .str, _ => rfl
 | .sl e, x => by
   show List.map (fun a => Shp.conv e e a) x = x
   rw [show (fun a => Shp.conv e e a) = id from funext fun a => conv_self e a]
   simp
 | .st fs, x => convs_self fs x
theorem convs_self : ∀ (fs : List Shp) (x : Shp.Ds fs), Shp.convs fs fs x = x
 | [], _ => rfl
 | f :: fs, x => by
   show (Shp.conv f f x.1, Shp.convs fs fs x.2) = x
   rw [conv_self f, convs_self fs]
end
def convL (e e' : Shp) (xs : List e.D) : List e'.D := xs.map (fun a => Shp.conv e e' a)
theorem convL_self (e : Shp) (xs : List e.D) : convL e e xs = xs := by
 unfold convL
 rw [show (fun a => Shp.conv e e a) = id from funext fun a => conv_self e a]
 simp
structure Dc (α : Type) where
 x : Unit → α
 rest : List SV
 ob : List (Unit → Prop)
 ids : List Nat
 bs : List Nat
def toB (n : Int) : UInt8 := UInt8.ofNat n.toNat
theorem toB_toNat {n : Int} (h0 : 0 ≤ n) (h1 : n < 256) : ((toB n).toNat : Int) = n := by
 unfold toB
 have : n.toNat % 256 = n.toNat := Nat.mod_eq_of_lt (by omega)
 simp [UInt8.toNat_ofNat', this]
 omega
def obB : IE → List (Unit → Prop)
 | .c n => if 0 ≤ n ∧ n < 256 then [] else [fun _ => False]
 | .cv .u8 _ => []
 | e => [fun _ => 0 ≤ e.den ∧ e.den < 256]
theorem obB_spec {e : IE} (h : ∀ p ∈ obB e, p ()) : 0 ≤ e.den ∧ e.den < 256 := by
 unfold obB at h
 split at h
 ·rename_i n
  split at h
  ·rw [den_c]; assumption
  ·exact (h _ List.mem_cons_self).elim
 ·rename_i a
  rw [den_cv]
  unfold IntKind.wrap
  simp only [IntKind.signed, IntKind.bits]
  constructor
  ·simp; exact Int.emod_nonneg _ (by decide)
  ·simp; exact Int.emod_lt_of_pos _ (by decide)
 ·exact h _ List.mem_cons_self
def catP : List (Unit → Prop) → List (Unit → Prop) → List (Unit → Prop)
 | [], m => m
 | x :: l, m => x :: catP l m
theorem catP_eq (l m : List (Unit → Prop)) : catP l m = l ++ m := by
 induction l with
 | nil => rfl
 | cons x l ih => simp [catP, ih]
def catN : List Nat → List Nat → List Nat
 | [], m => m
 | x :: l, m => x :: catN l m
theorem catN_eq (l m : List Nat) : catN l m = l ++ m := by
 induction l with
 | nil => rfl
 | cons x l ih => simp [catN, ih]
def decN {α : Type} (f : List SV → Option (Dc α)) : Nat → List SV → Option (Dc (List α))
 | 0, l => some ⟨fun _ => [], l, [], [], []⟩
 | n + 1, l => match f l with
   | some d => match decN f n d.rest with
     | some r => some ⟨fun u => d.x u :: r.x u, r.rest, catP d.ob r.ob, catN d.ids r.ids, catN d.bs r.bs⟩
     | none => none
   | none => none
def decI (k : IntKind) : List SV → Option (Dc Int)
 | .int k' i :: r => match nBeq (kNat k) (kNat k') with
   | true => some ⟨fun _ => i.den, r, [], [], []⟩
   | false => none
 | _ => none
def decY : List SV → Option (Dc UInt8)
 | .int k i :: r => match nBeq (kNat .u8) (kNat k) with
   | true => some ⟨fun _ => toB i.den, r, obB i, [], []⟩
   | false => none
 | _ => none
def decB : List SV → Option (Dc Bool)
 | .bool b :: r => some ⟨fun _ => b.den, r, [], [], []⟩
 | _ => none
def decS : List SV → Option (Dc ByteArray)
 | v :: r => match strOf v with
   | some f => some ⟨f, r, [], [], []⟩
   | none => none
 | _ => none
def decL (H : List Ent) (G : List FE) (e : Shp) (f : List SV → Option (Dc e.D)) : List SV → Option (Dc (List e.D))
 | .val (.slice none 0 0) :: r => some ⟨fun _ => [], r, [], [], []⟩
 | .fv id :: r => match findE G id with
   | some f => match f.c with
     | .rows e' x => match shEq e' e with
       | true => some ⟨fun u => convL e' e (x u), r, [], [id], []⟩
       | false => none
     | _ => none
   | none => none
 | .osl b o n cap :: r => match cellsE H b with
   | some cs => match nBle n cap && nBle cap 1000000 && nBle o (lenL cs) with
     | true => match decN f n (dropL o cs) with
       | some d => some ⟨d.x, r, d.ob, d.ids, b :: d.bs⟩
       | none => none
     | false => none
   | none => none
 | _ => none
mutual
def dec (H : List Ent) (G : List FE) : (e : Shp) → List SV → Option (Dc e.D)
 | .int k => fun l => decI k l
 | .byte => fun l => decY l
 | .bool => fun l => decB l
 | .str => fun l => decS l
 | .sl e => fun l => decL H G e (fun l => dec H G e l) l
 | .st fs => fun l => decs H G fs l
def decs (H : List Ent) (G : List FE) : (fs : List Shp) → List SV → Option (Dc (Shp.Ds fs))
 | [] => fun l => some ⟨fun _ => (), l, [], [], []⟩
 | f :: fs => fun l => match dec H G f l with
   | some d => match decs H G fs d.rest with
     | some r => some ⟨fun u => (d.x u, r.x u), r.rest, catP d.ob r.ob, catN d.ids r.ids, catN d.bs r.bs⟩
     | none => none
   | none => none
end
def DFoot (ρ : Nm) (G : List FE) (ids bs : List Nat) (k : Nat) : Prop := (∃ id ∈ ids, ∃ f, findE G id = some f ∧ f.foot ρ k) ∨ ∃ b ∈ bs, k = ρ.b b
section reads
variable {E : Env} {ρ : Nm} {w : World} {H : List Ent} {G : List FE}
theorem ownsRow_reads {t : TypeId} {sz : Nat} {s : Sl} {n : Nat} {cs : List Value} {Z : Nat → Prop} (h : w.ownsRow 0 t sz s.val n cs) (hz : ∀ x, s.a = some x → Z x.block) : Reads w Z s.a cs := by
 rcases h.2 with ⟨h1, h2⟩ | ⟨g, cap, cur, h1, h2, h3, h4, h5, h6, h7⟩
 ·subst h2
  have : cs = [] := List.eq_nil_of_length_eq_zero (by simpa using h.1)
  exact .inl this
 ·simp only [Sl.val, Value.slice.injEq] at h1
  refine .inr ⟨g, 0, h1.1, hz _ h1.1, fun j v hv => ?_⟩
  rw [cell_of_row w g (0 + j) cur t (0, 0) h3]
  rw [← h7, List.getElem?_take] at hv
  split at hv
  ·simpa using hv
  ·cases hv
theorem FE.reads {f : FE} (h : f.holds ρ w) {e : Shp} {x : Unit → List e.D} (hc : f.c = .rows e x) : Rd w (f.foot ρ) e.size (fun a b => Shp.rep w (f.foot ρ) e a b) (ρ.s f.id) (x ()) := by
 unfold FE.holds at h
 rw [hc] at h
 obtain ⟨h1, h2⟩ := h
 cases ho : f.own with
 | false => rw [ho] at h2; exact h2
 | true =>
   rw [ho] at h2
   obtain ⟨cs, h3, h4⟩ := h2.ex
   have hz : ∀ k, ρ.z f.id k → f.foot ρ k := fun k hk => by unfold FE.foot; rw [hc]; exact .inl hk
   refine ⟨h2.bd, cs, h3.1, ownsRow_reads h3 fun y hy => ?_, fun i hi => Shp.rep_mono hz (fun _ _ => rfl) e _ _ (h4 i hi)⟩
   unfold FE.foot
   rw [hc]
   exact .inr ⟨.inl ho, y, hy, rfl⟩
theorem Reads.of_block {Z : Nat → Prop} {b : Nat} {cs : Array Value} {ty : TypeId} {fr : Nat × Nat} (hb : w.heap[b]? = some (.cells cs ty fr)) (hz : Z b) (o m : Nat) : Reads w Z (some ⟨b, o, none⟩) ((cs.toList.drop o).take m) := by
 refine .inr ⟨b, o, rfl, hz, fun j v hv => ?_⟩
 rw [cell_of_row w b (o + j) cs ty fr hb]
 rw [List.getElem?_take] at hv
 split at hv
 ·simpa using hv
 ·cases hv
structure DcOk (ρ : Nm) (w : World) (H : List Ent) (G : List FE) {α : Type} (r : (Nat → Prop) → α → List Value → Prop) (l : List SV) (d : Dc α) : Prop where
 ex : ∃ used, l = used ++ d.rest ∧ ∀ Z : Nat → Prop, (∀ k, DFoot ρ G d.ids d.bs k → Z k) → r Z (d.x ()) (SV.dens ρ used)
theorem decN_sound {α : Type} {sz : Nat} {r : (Nat → Prop) → α → List Value → Prop} (hlen : ∀ Z a vs, r Z a vs → vs.length = sz) {f : List SV → Option (Dc α)} (hf : ∀ l d, f l = some d → (∀ p ∈ d.ob, p ()) → DcOk ρ w H G r l d) :
    ∀ (n : Nat) (l : List SV) (d : Dc (List α)), decN f n l = some d → (∀ p ∈ d.ob, p ()) → ∃ used, l = used ++ d.rest ∧ (d.x ()).length = n ∧ used.length = n * sz ∧
      ∀ Z : Nat → Prop, (∀ k, DFoot ρ G d.ids d.bs k → Z k) → ∀ i (h : i < (d.x ()).length), r Z (d.x ())[i] (chunk (SV.dens ρ used) i sz)
 | 0, l, d, h, _ => by
   unfold decN at h
   cases h
   exact ⟨[], rfl, rfl, by simp, fun Z hz i hi => by simp at hi⟩
 | n + 1, l, d, h, ho => by
   unfold decN at h
   split at h
   ·rename_i d1 hd1
    split at h
    ·rename_i r1 hr1
     cases h
     simp only [catP_eq, catN_eq] at ho ⊢
     obtain ⟨u1, e1, h1⟩ := (hf _ _ hd1 fun p hp => ho p (List.mem_append_left _ hp)).ex
     obtain ⟨u2, e2, h2, h3, h4⟩ := decN_sound hlen hf n _ _ hr1 fun p hp => ho p (List.mem_append_right _ hp)
     have z1 : ∀ Z : Nat → Prop, (∀ k, DFoot ρ G (d1.ids ++ r1.ids) (d1.bs ++ r1.bs) k → Z k) → ∀ k, DFoot ρ G d1.ids d1.bs k → Z k := fun Z hz k hk => hz k (by
      rcases hk with ⟨i, hi, hk⟩ | ⟨b, hb, hk⟩
      ·exact .inl ⟨i, List.mem_append_left _ hi, hk⟩
      ·exact .inr ⟨b, List.mem_append_left _ hb, hk⟩)
     have z2 : ∀ Z : Nat → Prop, (∀ k, DFoot ρ G (d1.ids ++ r1.ids) (d1.bs ++ r1.bs) k → Z k) → ∀ k, DFoot ρ G r1.ids r1.bs k → Z k := fun Z hz k hk => hz k (by
      rcases hk with ⟨i, hi, hk⟩ | ⟨b, hb, hk⟩
      ·exact .inl ⟨i, List.mem_append_right _ hi, hk⟩
      ·exact .inr ⟨b, List.mem_append_right _ hb, hk⟩)
     have hu1 : u1.length = sz := by
      have := hlen _ _ _ (h1 (fun _ => True) fun _ _ => trivial)
      rw [dens_length] at this
      exact this
     refine ⟨u1 ++ u2, by rw [e1, e2, List.append_assoc], by simp [h2], by rw [List.length_append, hu1, h3, Nat.succ_mul, Nat.add_comm], fun Z hz i hi => ?_⟩
     rw [dens_append]
     cases i with
     | zero =>
       simp only [chunk, Nat.zero_mul, List.drop_zero, List.getElem_cons_zero]
       rw [List.take_append_of_le_length (by rw [dens_length, hu1]; exact Nat.le_refl _), List.take_of_length_le (by rw [dens_length, hu1]; exact Nat.le_refl _)]
       exact h1 Z (z1 Z hz)
     | succ i =>
       have := h4 Z (z2 Z hz) i (by simpa using hi)
       simp only [List.getElem_cons_succ]
       unfold chunk at this ⊢
       rw [show (i + 1) * sz = (SV.dens ρ u1).length + i * sz by rw [dens_length, hu1, Nat.succ_mul]; omega, List.drop_append, List.drop_of_length_le (Nat.le_add_right _ _), List.nil_append, Nat.add_sub_cancel_left]
       exact this
    ·cases h
   ·cases h
end reads
section decs
variable {E : Env} {ρ : Nm} {w : World} {H : List Ent} {G : List FE}
theorem DFoot.left {ids ids' bs bs' : List Nat} {k : Nat} (h : DFoot ρ G ids bs k) : DFoot ρ G (ids ++ ids') (bs ++ bs') k := by
 rcases h with ⟨i, hi, hk⟩ | ⟨b, hb, hk⟩
 ·exact .inl ⟨i, List.mem_append_left _ hi, hk⟩
 ·exact .inr ⟨b, List.mem_append_left _ hb, hk⟩
theorem DFoot.right {ids ids' bs bs' : List Nat} {k : Nat} (h : DFoot ρ G ids' bs' k) : DFoot ρ G (ids ++ ids') (bs ++ bs') k := by
 rcases h with ⟨i, hi, hk⟩ | ⟨b, hb, hk⟩
 ·exact .inl ⟨i, List.mem_append_right _ hi, hk⟩
 ·exact .inr ⟨b, List.mem_append_right _ hb, hk⟩
theorem decL_sound (hh : Hp E ρ H G w) {e : Shp} {f : List SV → Option (Dc e.D)} (hf : ∀ l d, f l = some d → (∀ p ∈ d.ob, p ()) → DcOk ρ w H G (fun Z a vs => Shp.rep w Z e a vs) l d)
    {l : List SV} {d : Dc (List e.D)} (h : decL H G e f l = some d) (ho : ∀ p ∈ d.ob, p ()) :
    ∃ v r, l = v :: r ∧ r = d.rest ∧ ∀ Z : Nat → Prop, (∀ k, DFoot ρ G d.ids d.bs k → Z k) → ∃ s : Sl, v.den ρ = s.val ∧ Rd w Z e.size (fun a b => Shp.rep w Z e a b) s (d.x ()) := by
 unfold decL at h
 split at h
 ·cases h
  refine ⟨_, _, rfl, rfl, fun Z hz => ⟨⟨none, 0, 0⟩, by simp only [SV.den, Sl.val], ⟨rfl, by simp, by simp, by simp⟩, [], by simp, .inl rfl, fun i hi => by simp at hi⟩⟩
 ·rename_i id r
  split at h
  ·rename_i g hg
   split at h
   ·rename_i e' x hc
    cases hq : shEq e' e with
    | false => rw [hq] at h; cases h
    | true =>
      rw [hq] at h
      have := shEq_eq hq
      subst this
      cases h
      obtain ⟨hm, hid⟩ := findE_mem hg
      have hr := FE.reads (hh.facts g hm) hc
      rw [hid] at hr
      refine ⟨_, _, rfl, rfl, fun Z hz => ⟨ρ.s id, by simp only [SV.den], ?_⟩⟩
      simp only [convL_self]
      have hz' : ∀ k, g.foot ρ k → Z k := fun k hk => hz k (.inl ⟨id, List.mem_cons_self, g, hg, hk⟩)
      exact hr.mono hz' (fun _ _ => rfl) fun a b h => Shp.rep_mono hz' (fun _ _ => rfl) e' a b h
   ·cases h
  ·cases h
 ·rename_i b o n cap r
  split at h
  ·rename_i cs hcs
   cases hq : nBle n cap && nBle cap 1000000 && nBle o (lenL cs) with
   | false => rw [hq] at h; cases h
   | true =>
     rw [hq] at h
     simp only [Bool.and_eq_true] at hq
     obtain ⟨⟨h1, h2⟩, h3⟩ := hq
     have h1 := nBle_le h1
     have h2 := nBle_le h2
     have h3 := nBle_le h3
     simp only [] at h
     split at h
     ·rename_i d1 hd1
      cases h
      obtain ⟨he, hme, hid, hce⟩ := mem_cellsE hcs
      obtain ⟨used, h4, h5, h6, h7⟩ := decN_sound (sz := e.size) (fun Z a vs h => Shp.rep_length e a vs h) hf n _ _ hd1 ho
      have hb := hh.block ρ (Agr.refl _ _ _) he hme
      rw [hid, hce] at hb
      refine ⟨_, _, rfl, rfl, fun Z hz => ⟨⟨some ⟨ρ.b b, o, none⟩, n, cap⟩, by simp only [SV.den, Sl.val], ⟨by simp [h5], by simp [h5, h1], by simp; omega, by simp [h5]; omega⟩, SV.dens ρ used, ?_, ?_, ?_⟩⟩
      ·rw [dens_length, h6, h5]
      ·have := Reads.of_block (w := w) (Z := Z) hb (hz _ (.inr ⟨b, List.mem_cons_self, rfl⟩)) o used.length
       simp only [List.toList_toArray] at this
       rw [← dens_drop, ← dens_take, ← dropL_eq, h4, List.take_left] at this
       exact this
      ·exact h7 Z fun k hk => hz k (by
         rcases hk with hk | ⟨b', hb', hk⟩
         ·exact .inl hk
         ·exact .inr ⟨b', List.mem_cons_of_mem _ hb', hk⟩)
     ·cases h
  ·cases h
 ·cases h
mutual
theorem dec_sound (hh : Hp E ρ H G w) : ∀ (e : Shp) (l : List SV) (d : Dc e.D), dec H G e l = some d → (∀ p ∈ d.ob, p ()) → DcOk ρ w H G (fun Z a vs => Shp.rep w Z e a vs) l d
 | .int k, l, d, h, ho => by
   simp only [dec] at h
   unfold decI at h
   split at h
   ·rename_i k' i r
    cases hk : nBeq (kNat k) (kNat k') with
    | false => rw [hk] at h; cases h
    | true =>
      rw [hk] at h
      have := kNat_inj hk
      subst this
      cases h
      exact ⟨[_], rfl, fun Z hz => by simp only [SV.dens, SV.den]; rfl⟩
   ·cases h
 | .byte, l, d, h, ho => by
   simp only [dec] at h
   unfold decY at h
   split at h
   ·rename_i k i r
    cases hk : nBeq (kNat .u8) (kNat k) with
    | false => rw [hk] at h; cases h
    | true =>
      rw [hk] at h
      have := kNat_inj hk
      subst this
      cases h
      obtain ⟨h0, h1⟩ := obB_spec ho
      refine ⟨[_], rfl, fun Z hz => ?_⟩
      simp only [SV.dens, SV.den]
      show _ = _
      rw [toB_toNat h0 h1]
   ·cases h
 | .bool, l, d, h, ho => by
   simp only [dec] at h
   unfold decB at h
   split at h
   ·cases h
    exact ⟨[_], rfl, fun Z hz => by simp only [SV.dens, SV.den]; rfl⟩
   ·cases h
 | .str, l, d, h, ho => by
   simp only [dec] at h
   unfold decS at h
   split at h
   ·split at h
    ·rename_i f hs
     cases h
     exact ⟨[_], rfl, fun Z hz => by simp only [SV.dens, strOf_den hs]; rfl⟩
    ·cases h
   ·cases h
 | .sl e, l, d, h, ho => by
   simp only [dec] at h
   obtain ⟨v, r, h1, h2, h3⟩ := decL_sound hh (fun l d h ho => dec_sound hh e l d h ho) h ho
   refine ⟨[v], by rw [h1, h2]; rfl, fun Z hz => ?_⟩
   obtain ⟨s, h4, h5⟩ := h3 Z hz
   exact ⟨s, by simp only [SV.dens, h4], h5⟩
 | .st fs, l, d, h, ho => by
   simp only [dec] at h
   exact decs_sound hh fs l d h ho
theorem decs_sound (hh : Hp E ρ H G w) : ∀ (fs : List Shp) (l : List SV) (d : Dc (Shp.Ds fs)), decs H G fs l = some d → (∀ p ∈ d.ob, p ()) → DcOk ρ w H G (fun Z a vs => Shp.reps w Z fs a vs) l d
 | [], l, d, h, ho => by
   simp only [decs] at h
   cases h
   exact ⟨[], rfl, fun Z hz => by simp only [SV.dens]; rfl⟩
 | f :: fs, l, d, h, ho => by
   simp only [decs] at h
   split at h
   ·rename_i d1 hd1
    split at h
    ·rename_i r1 hr1
     cases h
     simp only [catP_eq, catN_eq] at ho ⊢
     obtain ⟨u1, e1, h1⟩ := (dec_sound hh f _ _ hd1 fun p hp => ho p (List.mem_append_left _ hp)).ex
     obtain ⟨u2, e2, h2⟩ := (decs_sound hh fs _ _ hr1 fun p hp => ho p (List.mem_append_right _ hp)).ex
     refine ⟨u1 ++ u2, by rw [e1, e2, List.append_assoc], fun Z hz => ?_⟩
     rw [dens_append]
     exact ⟨_, _, rfl, h1 Z fun k hk => hz k hk.left, h2 Z fun k hk => hz k hk.right⟩
    ·cases h
   ·cases h
end
end decs
end Go.Proofs.Ytkeefgiajogkkaa.V
