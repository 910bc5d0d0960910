import Derived.WalkKit
import Derived.Lib.Hide
import Derived.Lib.UnsafeStr
import Derived.Lib.Bytealg
import Derived.Lib.SlicesS
import Derived.WalkSmall
import Derived.Laws.OwnMore
import Derived.BigQuiet
import Derived.Deep.QuietTactic
import Derived.Deep.DeepMust
import Derived.Deep.DeepFit
import Derived.Test.YtkifmppmfkpfbaaGreatW02
set_option linter.unusedVariables false
set_option linter.unusedSimpArgs false
namespace Go.Proofs.YtkifmppmfkpfbaaGreat
open Go.RowKit
section
structure Bs (w : World) (a : Option Addr) (len cap : Nat) (l : List UInt8) : Prop where
 len_eq : l.length = len
 le : len ≤ cap
 cap_le : cap ≤ 9223372036854775807
 len_le : len ≤ 140737488355328
 cells : 0 < len → ∃ b off, a = some ⟨b, off, none⟩ ∧ ∀ i (h : i < l.length), w.cell? ⟨b, off + i, none⟩ = some (.int .u8 (l[i].toNat : Int))
theorem Bs.mono {w w' : World} {a : Option Addr} {len cap : Nat} {l : List UInt8} (h : Bs w a len cap l) (hb : Below w.heap.size w w') : Bs w' a len cap l :=
 ⟨h.len_eq, h.le, h.cap_le, h.len_le, fun hl => by
  obtain ⟨b, off, e, hc⟩ := h.cells hl
  refine ⟨b, off, e, fun i hi => ?_⟩
  have := hc i hi
  rw [hb.cell (p := ⟨b, off + i, none⟩) (World.block_lt_of_cell? w _ this)]
  exact this⟩
theorem Bs.drewN {w : World} {a : Option Addr} {len cap : Nat} {l : List UInt8} (h : Bs w a len cap l) (n : Nat) : Bs (w.drewN n) a len cap l :=
 h.mono (below_drewN (Below.refl _ _) n)
def Quiet (w w' : World) : Prop := ∃ n, w' = w.drewN n
theorem Quiet.refl (w : World) : Quiet w w := ⟨0, rfl⟩
theorem Quiet.trans {a b c : World} (h : Quiet a b) (k : Quiet b c) : Quiet a c := by
 obtain ⟨n, rfl⟩ := h; obtain ⟨m, rfl⟩ := k; exact ⟨n + m, World.drewN_drewN _ _ _⟩
theorem Quiet.drewN (w : World) (n : Nat) : Quiet w (w.drewN n) := ⟨n, rfl⟩
theorem Quiet.below {w w' : World} (h : Quiet w w') (B : Nat) : Below B w w' := by
 obtain ⟨n, rfl⟩ := h; exact below_drewN (Below.refl _ _) n
theorem Bs.zero (w : World) (a : Option Addr) (cap : Nat) (h : cap ≤ 9223372036854775807) : Bs w a 0 cap [] := ⟨rfl, by omega, h, by omega, by omega⟩
theorem Bs.of_ints {w : World} {x : Addr} {len cap : Nat} {zs : List Int} (hl : len ≤ cap) (hz : zs.length = cap) (hc : cap ≤ 140737488351232)
    (hcell : ∀ i, i < zs.length → w.cell? (x.add i) = some (.int .u8 (zs.getD i 0))) (hwz : ∀ n ∈ zs, (Lit.int .u8 n).wf = true) :
    Bs w (some x) len cap ((zs.take len).map fun n => UInt8.ofNat n.toNat) := by
 refine ⟨by simp; omega, hl, by omega, by omega, fun hn => ?_⟩
 obtain ⟨b, off, spot⟩ := x
 have h0 := hcell 0 (by omega)
 have hspot : spot = none := by simpa [Addr.add] using World.cell?_spot h0
 subst hspot
 refine ⟨b, off, rfl, fun i hi => ?_⟩
 have hi' : i < zs.length := by simp at hi; omega
 have hcc := hcell i hi'
 have hplain : (⟨b, off, none⟩ : Addr).add i = ⟨b, off + i, none⟩ := by unfold Addr.add; split <;> simp_all
 rw [hplain] at hcc
 rw [hcc]
 have hw : (Lit.int .u8 zs[i]).wf = true := hwz _ (List.getElem_mem hi')
 have hb : 0 ≤ zs[i] ∧ zs[i] ≤ 255 := by
  simp [Lit.wf, IntKind.min, IntKind.max, IntKind.bits, IntKind.signed] at hw
  omega
 have e : zs.getD i 0 = zs[i] := by simp [List.getD, hi']
 rw [e]
 simp
 omega
theorem Bs.lit (w : World) (l : List UInt8) (xs : Array Value) (e : TypeId) (n bk : Nat) (hb : bk = w.heap.size) (hx : xs = (l.map fun x => Value.int .u8 x.toNat).toArray) (hn : n = l.length) (h : l.length ≤ 140737488351232) :
    Bs (w.alloc (.cells xs e)) (some ⟨bk, 0, none⟩) n n l := by
 subst hb hx hn
 refine ⟨rfl, Nat.le_refl _, by omega, by omega, fun _ => ⟨_, _, rfl, fun i hi => ?_⟩⟩
 simp [hi]
theorem Bs.part {w : World} {b off len cap : Nat} {l : List UInt8} (h : Bs w (some ⟨b, off, none⟩) len cap l) (at_ n c : Nat) (h1 : at_ + n ≤ len) (h2 : n ≤ c) (h3 : c ≤ 9223372036854775807) :
    Bs w (some ⟨b, off + at_, none⟩) n c ((l.drop at_).take n) := by
 have hl := h.len_eq
 have hl2 := h.len_le
 refine ⟨by simp; omega, h2, h3, by omega, fun hn => ⟨b, off + at_, rfl, fun i hi => ?_⟩⟩
 simp at hi
 obtain ⟨b', off', e, hc⟩ := h.cells (by omega)
 simp only [Option.some.injEq, Addr.mk.injEq, and_true] at e
 obtain ⟨rfl, rfl⟩ := e
 rw [Nat.add_assoc, hc (at_ + i) (by omega)]
 simp
theorem run_convert_Bs {P : Program} {w : World} {a : Option Addr} {len cap : Nat} {l : List UInt8} (h : Bs w a len cap l) (src e dst : TypeId)
    (hs : P.underlying src = some (.slice e)) (he : P.underlying e = some (.int .u8)) (hd : P.underlying dst = some .string) :
    (convert src dst (.slice a len cap)).run P w = .ok (.string ⟨l.toArray⟩) w := by
 obtain ⟨h1, h2, h3, _, h4⟩ := h
 subst h1
 cases l with
 | nil =>
   cases a with
   | none => exact run_convert_bytes_nil w src e hs he _ _ dst hd
   | some a =>
     rw [run_convert_bytes_string w src dst e _ _ cap hs he hd]
     simp [Conv.bytesToString, loadCells, loadCellsFrom]
     rfl
 | cons x l =>
   obtain ⟨b, off, rfl, hc⟩ := h4 (by simp)
   generalize x :: l = l at *
   have := run_convert_bytes_arg (P := P) w src e hs he b off l.length cap (l.map fun c => (c.toNat : Int)) (by simp) (fun i hi => by
    rw [hc i hi]; simp [List.getD, hi]) dst hd
   rw [this]
   simp [strOfNums, Function.comp_def]
def num (l : List UInt8) : Nat := l.foldl (fun v x => v * 256 + x.toNat) 0
theorem num_snoc (l : List UInt8) (x : UInt8) : num (l ++ [x]) = num l * 256 + x.toNat := by simp [num]
theorem num_lt (l : List UInt8) : num l < 256 ^ l.length := by
 have : ∀ (l : List UInt8) (v m : Nat), v < m → l.foldl (fun v x => v * 256 + x.toNat) v < m * 256 ^ l.length := by
  intro l
  induction l with
  | nil => intro v m h; simpa using h
  | cons x l ih =>
    intro v m h
    have hx := x.toNat_lt
    have := ih (v * 256 + x.toNat) (m * 256) (by omega)
    rw [List.foldl_cons, List.length_cons, Nat.pow_succ]
    rw [Nat.mul_comm (256 ^ l.length) 256, ← Nat.mul_assoc]
    exact this
 simpa [num] using this l 0 1 (by omega)
theorem or_step (v x : Nat) (h : v * 256 + x < 18446744073709551616) (hx : x < 256) : bits .or .u64 (IntKind.u64.wrap ((v : Int) * 256)) (IntKind.u64.wrap (x : Int)) = ((v * 256 + x : Nat) : Int) := by
 have e1 : IntKind.u64.wrap ((v : Int) * 256) = ((v * 256 : Nat) : Int) := by rw [IntKind.wrap_u64]; omega
 have e2 : IntKind.u64.wrap (x : Int) = (x : Int) := by rw [IntKind.wrap_u64]; omega
 rw [e1, e2, bits_join .u64 64 (by decide) (fun n h0 h1 => by rw [IntKind.wrap_u64]; omega) 8 _ _ (by omega) (by omega) (by omega) (by omega) (by omega) (by omega)]
 omega
theorem num_take_lt (l : List UInt8) (k n : Nat) (hk : k < n) (hn : n ≤ 8) (x : UInt8) : num (l.take k) * 256 + x.toNat < 18446744073709551616 := by
 have h1 := num_lt (l.take k)
 have h2 : 256 ^ (l.take k).length ≤ 256 ^ 7 := Nat.pow_le_pow_right (by omega) (by have := List.length_take_le k l; omega)
 have := x.toNat_lt
 omega
def bvs (l : List UInt8) : List Value := l.map fun x => Value.int .u8 x.toNat
def Own (w : World) (B : Nat) (e : TypeId) (v : Value) (l : List UInt8) : Prop := w.ownsRow B e 1 v l.length (bvs l)
theorem Own.nil (w : World) (B : Nat) (e : TypeId) : Own w B e (.slice none 0 0) [] := World.ownsRow_nil w B e 1
theorem Own.bs {w : World} {B : Nat} {e : TypeId} {v : Value} {l : List UInt8} (h : Own w B e v l) (hl : l.length ≤ 140737488355328) :
    ∃ a cap, v = .slice a l.length cap ∧ Bs w a l.length cap l ∧ (a = none → l = []) := by
 rcases h.2 with ⟨rfl, hn⟩ | ⟨g, cap, cur, rfl, hb, hg, hc, hm, hs, ht⟩
 ·have : l = [] := List.eq_nil_of_length_eq_zero hn
  subst this
  exact ⟨none, 0, rfl, Bs.zero _ _ _ (by omega), fun _ => rfl⟩
 ·refine ⟨_, cap, rfl, ⟨rfl, hc, by simpa [maxLen] using hm, hl, fun _ => ⟨g, 0, rfl, fun i hi => ?_⟩⟩, fun h => by cases h⟩
  have hcell := World.ownsRow.cells h (g := g) rfl i (.int .u8 l[i].toNat) (by simp [bvs, hi])
  have hplain : (⟨g, 0, none⟩ : Addr).add i = ⟨g, 0 + i, none⟩ := by unfold Addr.add; split <;> simp_all
  rw [hplain] at hcell
  exact hcell
theorem Own.below {w w' : World} {B : Nat} {e : TypeId} {v : Value} {l : List UInt8} (h : Own w B e v l) (hb : Below w.heap.size w w') : Own w' B e v l := by
 refine ⟨h.1, ?_⟩
 rcases h.2 with hn | ⟨g, cap, cur, hv, hg, hh, r⟩
 ·exact .inl hn
 ·exact .inr ⟨g, cap, cur, hv, hg, by rw [hb.block g (Array.getElem?_eq_some_iff.1 hh).1]; exact hh, r⟩
theorem Own.mono {w : World} {B B' : Nat} {e : TypeId} {v : Value} {l : List UInt8} (h : Own w B e v l) (hb : B' ≤ B) : Own w B' e v l := by
 refine ⟨h.1, ?_⟩
 rcases h.2 with hn | ⟨g, cap, cur, hv, hg, r⟩
 ·exact .inl hn
 ·exact .inr ⟨g, cap, cur, hv, by omega, r⟩
def AppStop (P : Program) (ops : Array Oper) (Q : Exit → Act → World → Prop) (rest : List Oper) (o : Oper) (a : Act) (w : World) (s x : Operand) (t : TypeId) : Prop :=
 ∃ v' w', (Builtin.append_ #[t, t] o.type #[a.eval s, a.eval x]).run P w = .ok v' w' ∧ wpList P ops Q rest (a.put o.dst v') w'
theorem AppStop.mk {P : Program} {ops : Array Oper} {Q : Exit → Act → World → Prop} {rest : List Oper} {o : Oper} {a : Act} {w : World} {s x : Operand} {t : TypeId} {v' : Value} {w' : World}
    (hr : (Builtin.append_ #[t, t] o.type #[a.eval s, a.eval x]).run P w = .ok v' w') (h : wpList P ops Q rest (a.put o.dst v') w') : AppStop P ops Q rest o a w s x t := ⟨v', w', hr, h⟩
end
end Go.Proofs.YtkifmppmfkpfbaaGreat
namespace Go.Proofs.YtkifmppmfkpfbaaGreat.V
open Go.RowKit
section
def blkOf (a : Option Addr) (n : Nat) (k : Nat) : Prop := 0 < n ∧ ∃ x, a = some x ∧ k = x.block
theorem Bs_stable {w w' : World} {a : Option Addr} {n cap : Nat} {l : List UInt8} (h : Bs w a n cap l) (hs : ∀ k, blkOf a n k → w'.heap[k]? = w.heap[k]?) : Bs w' a n cap l :=
 ⟨h.len_eq, h.le, h.cap_le, h.len_le, fun hl => by
  obtain ⟨b, off, e, hc⟩ := h.cells hl
  refine ⟨b, off, e, fun i hi => ?_⟩
  rw [World.cell?_of_block (w := w) (hs b ⟨hl, _, e, rfl⟩)]
  exact hc i hi⟩
theorem Bs_lt {w : World} {a : Option Addr} {n cap : Nat} {l : List UInt8} (h : Bs w a n cap l) {k : Nat} (hk : blkOf a n k) : k < w.heap.size := by
 obtain ⟨hn, x, rfl, rfl⟩ := hk
 obtain ⟨b, off, e, hc⟩ := h.cells hn
 cases e
 exact World.block_lt_of_cell? w _ (hc 0 (by have := h.len_eq; omega))
structure Cds (T : TypeId) (p : Nat) (a : Option Addr) (n cap : Nat) (l : List UInt8) (w : World) : Prop where
 block : ∃ k : Nat, w.heap[p]? = some (.cells #[.slice a n cap, .int .i64 k] T (0, 0))
 bs : Bs w a n cap l
 ne : ¬ blkOf a n p
def findE : List FE → Nat → Option FE
 | [], _ => none
 | f :: l, n => match nBeq f.id n with
   | true => some f
   | false => findE l n
structure OwnR (w : World) (t : TypeId) (Z : Nat → Prop) (e : Shp) (s : Sl) (xs : List e.D) : Prop where
 bd : Bd s xs.length
 ex : ∃ cs, w.ownsRow 0 t e.size s.val xs.length cs ∧ ∀ i (h : i < xs.length), Shp.rep w Z e xs[i] (chunk cs i e.size)
 top : ∀ x, s.a = some x → ¬ Z x.block
def Shp.pk : Shp → List Value → Value
 | .st _, cs => .agg cs.toArray
 | _, v :: _ => v
 | _, [] => undef
structure MpR (w : World) (Z : Nat → Prop) (b : Nat) (ke ve : Shp) (xs : List (Shp.D (.st [ke, ve]))) : Prop where
 ex : ∃ es clock, w.heap[b]? = some (.map es clock) ∧ es.size = xs.length ∧ ∀ i (h : i < xs.length), ∃ (e : MapEntry) (kc vc : List Value), es[i]? = some e ∧ Shp.rep w Z ke xs[i].1 kc ∧ e.key = ke.pk kc ∧ Shp.rep w Z ve xs[i].2.1 vc ∧ e.val = ve.pk vc
theorem MpR.mono {w w' : World} {Z Z' : Nat → Prop} {b : Nat} {ke ve : Shp} {xs : List (Shp.D (.st [ke, ve]))} (h : MpR w Z b ke ve xs) (hz : ∀ k, Z k → Z' k) (hw : ∀ k, Z k → w'.heap[k]? = w.heap[k]?) (hb : w'.heap[b]? = w.heap[b]?) : MpR w' Z' b ke ve xs := by
 obtain ⟨es, clock, h1, h2, h3⟩ := h.ex
 refine ⟨es, clock, by rw [hb]; exact h1, h2, fun i hi => ?_⟩
 obtain ⟨e, kc, vc, a1, a2, a3, a4, a5⟩ := h3 i hi
 exact ⟨e, kc, vc, a1, Shp.rep_mono hz hw ke _ _ a2, a3, Shp.rep_mono hz hw ve _ _ a4, a5⟩
structure HoleR (w : World) (t : TypeId) (Z : Nat → Prop) (e : Shp) (s : Sl) (g : Nat) (xs : List e.D) (i : Int) (o : Nat) (v : Option Value) : Prop where
 bd : Bd s xs.length
 at0 : s.a = some ⟨g, 0, none⟩
 lo : 0 ≤ i
 hi : i < xs.length
 fit : o < e.size
 ex : ∃ cs c, w.ownsRow 0 t e.size s.val xs.length (cs.set (i.toNat * e.size + o) c) ∧ cs.length = xs.length * e.size ∧ (∀ j (h : j < xs.length), Shp.rep w Z e xs[j] (chunk cs j e.size)) ∧ ∀ u, v = some u → c = u
def FE.top (ρ : Nm) (f : FE) (k : Nat) : Prop := ∃ x, (ρ.s f.id).a = some x ∧ k = x.block
def FE.foot (ρ : Nm) (f : FE) (k : Nat) : Prop :=
 match f.c with
 | .dead => False
 | .rows _ _ => ρ.z f.id k ∨ ((f.own = true ∨ 0 < (ρ.s f.id).n) ∧ f.top ρ k)
 | .codes _ => k = ρ.b f.id ∨ ρ.z f.id k
def FE.excl (ρ : Nm) (f : FE) (k : Nat) : Prop :=
 match f.c with
 | .dead => False
 | .rows _ _ => f.own = true ∧ f.top ρ k
 | .codes _ => k = ρ.b f.id
def FE.holds (ρ : Nm) (w : World) (f : FE) : Prop :=
 match f.c with
 | .dead => True
 | .rows e x => (∀ k, ρ.z f.id k → k < w.heap.size) ∧ (match f.own with
   | true => OwnR w f.t (ρ.z f.id) e (ρ.s f.id) (x ())
   | false => Rd w (f.foot ρ) e.size (fun a b => Shp.rep w (f.foot ρ) e a b) (ρ.s f.id) (x ()))
 | .codes T => match T with
   | .cd T => ∃ l, Cds T (ρ.b f.id) (ρ.s f.id).a (ρ.s f.id).n (ρ.s f.id).cap l w ∧ ∀ k, ρ.z f.id k ↔ blkOf (ρ.s f.id).a (ρ.s f.id).n k
   | .ob o => (ρ.b f.id = f.t ∧ ∀ k, ¬ ρ.z f.id k) ∧ w.heap[f.t]? = some o
   | .mp ke ve x => (∀ k, ρ.z f.id k → k < w.heap.size ∧ k ≠ ρ.b f.id) ∧ MpR w (ρ.z f.id) (ρ.b f.id) ke ve (x ())
   | .hl e x i o l T => (∀ k, ρ.z f.id k → k < w.heap.size ∧ k ≠ ρ.b f.id) ∧ HoleR w f.t (ρ.z f.id) e (ρ.s l) (ρ.b f.id) (x ()) i.den o (T.map fun n => (ρ.s n).val)
theorem FE.excl_foot {ρ : Nm} {f : FE} {k : Nat} (h : f.excl ρ k) : f.foot ρ k := by
 unfold FE.excl at h
 unfold FE.foot
 split at h
 ·exact h.elim
 ·exact .inr ⟨.inl h.1, h.2⟩
 ·exact .inl h
theorem ownsRow_lt {w : World} {t : TypeId} {sz : Nat} {s : Sl} {n : Nat} {cs : List Value} (h : w.ownsRow 0 t sz s.val n cs) {x : Addr} (hx : s.a = some x) : x.block < w.heap.size := by
 refine (h.lt x.block ?_).2
 simp [Sl.val, Value.ownBlock, hx]
theorem Reads.lt {w : World} {Z : Nat → Prop} {a : Option Addr} {cs : List Value} (h : Reads w Z a cs) (hne : cs ≠ []) {x : Addr} (hx : a = some x) : x.block < w.heap.size ∧ Z x.block := by
 rcases h with h | ⟨b, off, ha, hz, hc⟩
 ·exact absurd h hne
 ·rw [ha] at hx
  cases hx
  obtain ⟨v, l, rfl⟩ := List.exists_cons_of_ne_nil hne
  exact ⟨World.block_lt_of_cell? w _ (hc 0 v rfl), hz⟩
theorem FE.foot_lt {ρ : Nm} {w : World} {f : FE} (h : f.holds ρ w) (hsz : ∀ e x, f.c = .rows e x → 0 < e.size) {k : Nat} (hk : f.foot ρ k) : k < w.heap.size := by
 unfold FE.holds at h
 unfold FE.foot at hk
 cases hc : f.c with
 | dead => rw [hc] at hk; exact hk.elim
 | rows e x =>
   rw [hc] at h hk
   obtain ⟨h1, h2⟩ := h
   rcases hk with hk | ⟨hk, y, hy, rfl⟩
   ·exact h1 k hk
   ·cases ho : f.own with
    | true =>
      rw [ho] at h2
      obtain ⟨cs, h3, _⟩ := h2.ex
      exact ownsRow_lt h3 hy
    | false =>
      rw [ho] at h2 hk
      have hn : 0 < (ρ.s f.id).n := by rcases hk with hk | hk; cases hk; exact hk
      obtain ⟨cs, h3, h4, _⟩ := h2.ex
      refine (h4.lt ?_ hy).1
      intro e0
      rw [e0] at h3
      have := h2.bd.len
      have hp := hsz _ _ hc
      have hm : 0 < (x ()).length * e.size := Nat.mul_pos (by omega) hp
      simp at h3
      omega
 | codes T =>
   rw [hc] at h hk
   cases T with
   | cd T =>
     obtain ⟨l, h1, h2⟩ := h
     rcases hk with rfl | hk
     ·obtain ⟨_, hb⟩ := h1.block
      exact (Array.getElem?_eq_some_iff.1 hb).1
     ·exact Bs_lt h1.bs ((h2 k).1 hk)
   | ob o =>
     rcases hk with rfl | hk
     ·rw [h.1.1]; exact (Array.getElem?_eq_some_iff.1 h.2).1
     ·exact absurd hk (h.1.2 k)
   | mp ke ve x =>
     rcases hk with rfl | hk
     ·obtain ⟨es, clock, h1, _⟩ := h.2.ex
      exact (Array.getElem?_eq_some_iff.1 h1).1
     ·exact (h.1 k hk).1
   | hl e x i o l T =>
     rcases hk with rfl | hk
     ·obtain ⟨cs, c, h1, _⟩ := h.2.ex
      exact ownsRow_lt h1 h.2.at0
     ·exact (h.1 k hk).1
theorem ownsRow_stable {w w' : World} {t : TypeId} {sz : Nat} {s : Sl} {n : Nat} {cs : List Value} (h : w.ownsRow 0 t sz s.val n cs) (hw : ∀ x, s.a = some x → w'.heap[x.block]? = w.heap[x.block]?) : w'.ownsRow 0 t sz s.val n cs := by
 refine ⟨h.1, ?_⟩
 rcases h.2 with h | ⟨g, cap, cur, h1, h2, h3, h4⟩
 ·exact .inl h
 ·refine .inr ⟨g, cap, cur, h1, h2, ?_, h4⟩
  simp [Sl.val] at h1
  have := hw _ h1.1
  rw [this]
  exact h3
theorem OwnR.stable {w w' : World} {t : TypeId} {Z : Nat → Prop} {e : Shp} {s : Sl} {xs : List e.D} (h : OwnR w t Z e s xs) (hz : ∀ k, Z k → w'.heap[k]? = w.heap[k]?) (hw : ∀ x, s.a = some x → w'.heap[x.block]? = w.heap[x.block]?) : OwnR w' t Z e s xs := by
 obtain ⟨cs, h1, h2⟩ := h.ex
 exact ⟨h.bd, ⟨cs, ownsRow_stable h1 hw, fun i hi => Shp.rep_mono (fun _ h => h) hz e _ _ (h2 i hi)⟩, h.top⟩
theorem HoleR.stable {w w' : World} {t : TypeId} {Z : Nat → Prop} {e : Shp} {s : Sl} {g : Nat} {xs : List e.D} {i : Int} {o : Nat} {v : Option Value} (h : HoleR w t Z e s g xs i o v) (hz : ∀ k, Z k → w'.heap[k]? = w.heap[k]?) (hw : w'.heap[g]? = w.heap[g]?) : HoleR w' t Z e s g xs i o v := by
 obtain ⟨cs, c, h1, h2, h3, h4⟩ := h.ex
 exact ⟨h.bd, h.at0, h.lo, h.hi, h.fit, ⟨cs, c, ownsRow_stable h1 (fun x hx => by rw [h.at0] at hx; cases hx; exact hw), h2, fun j hj => Shp.rep_mono (fun _ h => h) hz e _ _ (h3 j hj), h4⟩⟩
theorem FE.stable {ρ : Nm} {w w' : World} {f : FE} (h : f.holds ρ w) (hs : w.heap.size ≤ w'.heap.size) (hw : ∀ k, f.foot ρ k → w'.heap[k]? = w.heap[k]?) : f.holds ρ w' := by
 have hfe : ∀ k, f.foot ρ k ↔ f.foot ρ k := fun _ => Iff.rfl
 unfold FE.holds at h ⊢
 cases hc : f.c with
 | dead => trivial
 | rows e x =>
   rw [hc] at h
   obtain ⟨h1, h2⟩ := h
   refine ⟨fun k hk => Nat.lt_of_lt_of_le (h1 k hk) hs, ?_⟩
   have hz : ∀ k, ρ.z f.id k → w'.heap[k]? = w.heap[k]? := fun k hk => hw k (by unfold FE.foot; rw [hc]; exact .inl hk)
   cases ho : f.own with
   | true =>
     rw [ho] at h2
     exact h2.stable hz fun x hx => hw _ (by unfold FE.foot; rw [hc]; exact .inr ⟨.inl ho, x, hx, rfl⟩)
   | false =>
     rw [ho] at h2
     exact h2.mono (fun _ h => h) hw fun a b h => Shp.rep_mono (fun _ h => h) hw e a b h
 | codes T =>
   rw [hc] at h
   cases T with
   | cd T =>
     obtain ⟨l, h1, h2⟩ := h
     refine ⟨l, ⟨?_, ?_, h1.ne⟩, h2⟩
     ·obtain ⟨k, hb⟩ := h1.block
      exact ⟨k, by rw [hw _ (by unfold FE.foot; rw [hc]; exact .inl rfl)]; exact hb⟩
     ·exact Bs_stable h1.bs fun k hk => hw k (by unfold FE.foot; rw [hc]; exact .inr ((h2 k).2 hk))
   | ob o => exact ⟨h.1, by rw [hw _ (by unfold FE.foot; rw [hc]; exact .inl h.1.1.symm)]; exact h.2⟩
   | mp ke ve x => exact ⟨fun k hk => ⟨Nat.lt_of_lt_of_le (h.1 k hk).1 hs, (h.1 k hk).2⟩, h.2.mono (fun _ h => h) (fun k hk => hw k (by unfold FE.foot; rw [hc]; exact .inr hk)) (hw _ (by unfold FE.foot; rw [hc]; exact .inl rfl))⟩
   | hl e x i o l T => exact ⟨fun k hk => ⟨Nat.lt_of_lt_of_le (h.1 k hk).1 hs, (h.1 k hk).2⟩, h.2.stable (fun k hk => hw k (by unfold FE.foot; rw [hc]; exact .inr hk)) (hw _ (by unfold FE.foot; rw [hc]; exact .inl rfl))⟩
theorem FE.foot_names {ρ ρ' : Nm} {f : FE} (hb : ρ'.b f.id = ρ.b f.id) (hs : ρ'.s f.id = ρ.s f.id) (hz : ρ'.z f.id = ρ.z f.id) : f.foot ρ' = f.foot ρ := by
 funext k
 unfold FE.foot FE.top
 rw [hb, hs, hz]
theorem FE.excl_names {ρ ρ' : Nm} {f : FE} (hb : ρ'.b f.id = ρ.b f.id) (hs : ρ'.s f.id = ρ.s f.id) : f.excl ρ' = f.excl ρ := by
 funext k
 unfold FE.excl FE.top
 rw [hb, hs]
theorem FE.holds_names {ρ ρ' : Nm} {f : FE} {w : World} (hb : ρ'.b f.id = ρ.b f.id) (hs : ρ'.s f.id = ρ.s f.id) (hz : ρ'.z f.id = ρ.z f.id) (hx : ∀ k, noN k f.c = false → ρ'.s k = ρ.s k) : f.holds ρ' w = f.holds ρ w := by
 unfold FE.holds
 rw [FE.foot_names hb hs hz, hb, hs, hz]
 cases hc : f.c with
 | dead => rfl
 | rows e x => rfl
 | codes T =>
   cases T with
   | cd T => rfl
   | ob o => rfl
   | mp ke ve x => rfl
   | hl e x i o l T =>
     rw [hc] at hx
     simp only [hx l (by simp [noN])]
     cases T with
     | none => rfl
     | some t => simp only [Option.map_some, hx t (by simp [noN])]
def Agr (ρ ρ' : Nm) (H : List Ent) (G : List FE) : Prop := (∀ e ∈ H, ρ'.b e.id = ρ.b e.id) ∧ ∀ f ∈ G, ρ'.b f.id = ρ.b f.id ∧ ρ'.s f.id = ρ.s f.id
theorem Agr.refl (ρ : Nm) (H : List Ent) (G : List FE) : Agr ρ ρ H G := ⟨fun _ _ => rfl, fun _ _ => ⟨rfl, rfl⟩⟩
structure BelowX (B : Nat) (may : Nat → Prop) (w w' : World) : Prop where
 os : w'.os = w.os
 tape : w'.tape = w.tape
 output : w'.output = w.output
 size : w.heap.size ≤ w'.heap.size
 block : ∀ k, k < B → ¬ may k → w'.heap[k]? = w.heap[k]?
theorem BelowX.of {B : Nat} {w w' : World} (h : Below B w w') (may : Nat → Prop) : BelowX B may w w' := ⟨h.os, h.tape, h.output, h.size, fun k hk _ => h.block k hk⟩
theorem BelowX.trans {B : Nat} {may : Nat → Prop} {a b c : World} (h : BelowX B may a b) (k : BelowX B may b c) : BelowX B may a c :=
 ⟨k.os.trans h.os, k.tape.trans h.tape, k.output.trans h.output, Nat.le_trans h.size k.size, fun i hi hm => (k.block i hi hm).trans (h.block i hi hm)⟩
theorem BelowX.below {B : Nat} {may : Nat → Prop} {w w' : World} (h : BelowX B may w w') (hm : ∀ k, k < B → ¬ may k) : Below B w w' := ⟨h.os, h.tape, h.output, h.size, fun k hk => h.block k hk (hm k hk)⟩
structure Env where
 keep : World → Prop
 B : Nat
 may : Nat → Prop
 z0 : Nat → Nat → Prop
 lo : Nat
 hi : Nat
 ρ0 : Nm
 df : List Deferred
structure Env.ok (E : Env) : Prop where
 keepX : ∀ w w', E.keep w → BelowX E.B E.may w w' → E.keep w'
theorem Env.ok.keep {E : Env} (h : E.ok) : ∀ w w', E.keep w → Below E.B w w' → E.keep w' := fun w w' hk hb => h.keepX w w' hk (.of hb _)
def Sep (ρ : Nm) (f g : FE) : Prop := ∀ k, (f.excl ρ k → ¬ g.foot ρ k) ∧ (g.excl ρ k → ¬ f.foot ρ k)
structure Hp (E : Env) (ρ : Nm) (H : List Ent) (G : List FE) (w : World) : Prop where
 keep : E.keep w
 size : E.B ≤ w.heap.size
 base : ∀ e ∈ H, E.B ≤ ρ.b e.id
 block : ∀ ρ', Agr ρ ρ' H G → ∀ e ∈ H, w.heap[ρ.b e.id]? = some (.cells (SV.dens ρ' e.cells).toArray e.ty (0, 0))
 inj : ∀ e ∈ H, ∀ e' ∈ H, ρ.b e.id = ρ.b e'.id → e.id = e'.id
 facts : ∀ f ∈ G, f.holds ρ w
 pos : ∀ f ∈ G, ∀ e x, f.c = .rows e x → 0 < e.size
 apart : ∀ e ∈ H, ∀ f ∈ G, ¬ f.foot ρ (ρ.b e.id)
 alone : G.Pairwise (Sep ρ)
 exB : ∀ f ∈ G, ∀ k, f.excl ρ k → E.may k ∨ E.B ≤ k
 al : ∀ f ∈ G, ∀ k, f.foot ρ k → E.B ≤ k ∨ ∃ j ∈ f.al, E.z0 j k
 anc : ∀ i, (i < E.lo ∨ E.hi ≤ i) → ρ.b i = E.ρ0.b i ∧ ρ.s i = E.ρ0.s i
structure Fit (E : Env) (ρ : Nm) (s : St) (a : Act) (w : World) : Prop where
 len : a.tmps.size = s.n
 lim : s.n ≤ 4000
 tmps : ∀ ρ', Agr ρ ρ' s.heap s.ents → ∀ t, t < s.n → a.tmps[t]? = some ((s.fr.get t).den ρ')
 defers : a.defers = E.df
 hp : Hp E ρ s.heap s.ents w
section fit
variable {E : Env} {ρ : Nm} {s : St} {a : Act} {w : World} {H : List Ent} {G : List FE}
theorem Fit.ev (h : Fit E ρ s a w) {ρ' : Nm} (hr : Agr ρ ρ' s.heap s.ents) (x : Operand) : a.eval x = (s.ev x).den ρ' := by
 cases x with
 | tmp t =>
   simp only [Act.eval, St.ev]
   cases hb : nBlt t s.n with
   | true =>
     have hlt : t < s.n := by simpa [nBlt_iff] using hb
     simp only [Array.getD_eq_getD_getElem?, h.tmps ρ' hr t hlt, Option.getD_some]
   | false =>
     have hge : s.n ≤ t := by
      rcases Nat.lt_or_ge t s.n with g | g
      ·rw [show nBlt t s.n = true from by simpa [nBlt_iff] using g] at hb; cases hb
      ·exact g
     simp only [Array.getD_eq_getD_getElem?, Array.getElem?_eq_none (show a.tmps.size ≤ t by rw [h.len]; exact hge), Option.getD_none, SV.den]
 | const v => simp only [Act.eval, St.ev, litV_den]
 | global g => rfl
 | func f => rfl
theorem Fit.put (h : Fit E ρ s a w) (d : Option Nat) {v : SV} {u : Value} (hu : ∀ ρ', Agr ρ ρ' s.heap s.ents → v.den ρ' = u) : Fit E ρ (s.put d v) (a.put d u) w := by
 cases d with
 | none => exact h
 | some d =>
   simp only [St.put]
   cases hb : nBlt d s.n with
   | true =>
     have hlt : d < s.n := by simpa [nBlt_iff] using hb
     have hlim := h.lim
     refine ⟨by simp [Act.put, h.len], h.lim, ?_, h.defers, h.hp⟩
     intro ρ' hr t ht
     show (a.tmps.setIfInBounds d u)[t]? = some (((Fr.set v 12 s.fr d).get t).den ρ')
     rw [Fr.get_set v 12 s.fr d t (by omega), Array.getElem?_setIfInBounds]
     by_cases hdt : d = t
     ·subst hdt
      simp [h.len, hlt, hu ρ' hr]
     ·rw [if_neg hdt, if_neg (Ne.symm hdt)]
      exact h.tmps ρ' hr t ht
   | false =>
     have hge : s.n ≤ d := by
      rcases Nat.lt_or_ge d s.n with g | g
      ·rw [show nBlt d s.n = true from by simpa [nBlt_iff] using g] at hb; cases hb
      ·exact g
     have : a.put (some d) u = a := by
      simp only [Act.put]
      rw [Array.setIfInBounds_eq_of_size_le (by rw [h.len]; exact hge)]
     rw [this]
     exact h
theorem Fit.mem (h : Fit E ρ s a w) {E' : Env} {ρ' : Nm} {H' : List Ent} {G' : List FE} {w' : World} (nx : Nat) (hp : Hp E' ρ' H' G' w') (hr : ∀ ρ'', Agr ρ' ρ'' H' G' → Agr ρ ρ'' s.heap s.ents) (hd : E'.df = E.df := by rfl) : Fit E' ρ' ⟨s.fr, s.n, H', G', nx⟩ a w' :=
 ⟨h.len, h.lim, fun ρ'' hg => h.tmps ρ'' (hr ρ'' hg), h.defers.trans hd.symm, hp⟩
theorem Hp.lt (h : Hp E ρ H G w) {e : Ent} (he : e ∈ H) : ρ.b e.id < w.heap.size := (Array.getElem?_eq_some_iff.1 (h.block ρ (Agr.refl _ _ _) e he)).1
theorem Hp.foot_lt (h : Hp E ρ H G w) {f : FE} (hf : f ∈ G) {k : Nat} (hk : f.foot ρ k) : k < w.heap.size := FE.foot_lt (h.facts f hf) (h.pos f hf) hk
theorem Hp.cells_agree (h : Hp E ρ H G w) {ρ' : Nm} (hr : Agr ρ ρ' H G) {e : Ent} (he : e ∈ H) : SV.dens ρ' e.cells = SV.dens ρ e.cells := by
 have h1 := h.block ρ' hr e he
 have h2 := h.block ρ (Agr.refl _ _ _) e he
 rw [h1] at h2
 simpa using h2
theorem Hp.change (h : Hp E ρ H G w) {w' : World} (hk : E.keep w') (hs : w.heap.size ≤ w'.heap.size) (hH : ∀ e ∈ H, w'.heap[ρ.b e.id]? = w.heap[ρ.b e.id]?) (hG : ∀ f ∈ G, ∀ k, f.foot ρ k → w'.heap[k]? = w.heap[k]?) : Hp E ρ H G w' :=
 ⟨hk, Nat.le_trans h.size hs, h.base, fun ρ' hr e he => (hH e he).trans (h.block ρ' hr e he), h.inj, fun f hf => FE.stable (h.facts f hf) hs (hG f hf), h.pos, h.apart, h.alone, h.exB, h.al, h.anc⟩
theorem Hp.below (h : Hp E ρ H G w) (hE : E.ok) {w' : World} (hb : Below w.heap.size w w') : Hp E ρ H G w' :=
 h.change (hE.keep _ _ h.keep (hb.mono h.size)) hb.size (fun e he => hb.block _ (h.lt he)) fun f hf k hk => hb.block k (h.foot_lt hf hk)
def freshG (n : Nat) : List FE → Bool
 | [] => true
 | f :: l => (!nBeq f.id n && noN n f.c) && freshG n l
theorem freshG_nms {n : Nat} : ∀ {l : List FE}, freshG n l = true → ∀ e ∈ l, noN n e.c = true
 | [], _, _, he => by cases he
 | x :: l, h, e, he => by
   simp only [freshG, Bool.and_eq_true] at h
   rcases List.mem_cons.1 he with rfl | he
   ·exact h.1.2
   ·exact freshG_nms h.2 e he
theorem freshG_mem {n : Nat} : ∀ {l : List FE}, freshG n l = true → ∀ e ∈ l, e.id ≠ n
 | [], _, _, he => by cases he
 | x :: l, h, e, he => by
   simp only [freshG, Bool.and_eq_true] at h
   rcases List.mem_cons.1 he with rfl | he
   ·exact ne_of_beq h.1.1
   ·exact freshG_mem h.2 e he
def fresh (lo hi n : Nat) (H : List Ent) (G : List FE) : Bool := nBle lo n && nBlt n hi && freshE n H && freshG n G
structure Fresh (E : Env) (n : Nat) (H0 : List Ent) (G0 : List FE) : Prop where
 lo : E.lo ≤ n
 hi : n < E.hi
 H : ∀ e ∈ H0, e.id ≠ n
 G : ∀ f ∈ G0, f.id ≠ n
 N : ∀ f ∈ G0, noN n f.c = true
theorem Fresh.g2 {E : Env} {n : Nat} {H : List Ent} {G : List FE} (h : Fresh E n H G) : ∀ f ∈ G, f.id ≠ n ∧ noN n f.c = true := fun f hf => ⟨h.G f hf, h.N f hf⟩
theorem Fresh.to {E : Env} {n : Nat} {H : List Ent} {G G2 : List FE} (h : Fresh E n H G) (h2 : ∀ f ∈ G2, f.id ≠ n ∧ noN n f.c = true) : Fresh E n H G2 := ⟨h.lo, h.hi, h.H, fun f hf => (h2 f hf).1, fun f hf => (h2 f hf).2⟩
theorem Fresh.hx {E : Env} {n : Nat} {H : List Ent} {G : List FE} (h : Fresh E n H G) {f : FE} (hf : f ∈ G) {k : Nat} (hk : noN k f.c = false) : k ≠ n := fun e => by
 have := h.N f hf
 rw [e, this] at hk
 cases hk
theorem fresh_spec {E : Env} {lo hi n : Nat} (h : fresh lo hi n H G = true) (e1 : E.lo = lo) (e2 : E.hi = hi) : Fresh E n H G := by
 simp only [fresh, Bool.and_eq_true, nBlt_iff] at h
 obtain ⟨⟨⟨h1, h2⟩, h3⟩, h4⟩ := h
 exact ⟨by rw [e1]; exact nBle_le h1, by rw [e2]; exact h2, freshE_mem h3, freshG_mem h4, freshG_nms h4⟩
def Nm.setB (ρ : Nm) (n v : Nat) : Nm := ⟨fun i => if i = n then v else ρ.b i, ρ.s, ρ.z⟩
def Nm.setS (ρ : Nm) (n : Nat) (s : Sl) (z : Nat → Prop) : Nm := ⟨ρ.b, fun i => if i = n then s else ρ.s i, fun i => if i = n then z else ρ.z i⟩
theorem agr_setB {n v : Nat} (hH : ∀ e ∈ H, e.id ≠ n) (hG : ∀ f ∈ G, f.id ≠ n) : Agr ρ (ρ.setB n v) H G :=
 ⟨fun e he => by simp [Nm.setB, hH e he], fun f hf => by simp [Nm.setB, hG f hf]⟩
theorem agr_setS {n : Nat} {s : Sl} {z : Nat → Prop} (hG : ∀ f ∈ G, f.id ≠ n) : Agr ρ (ρ.setS n s z) H G :=
 ⟨fun e he => rfl, fun f hf => by simp [Nm.setS, hG f hf]⟩
theorem Agr.trans {ρ ρ' ρ'' : Nm} (h : Agr ρ ρ' H G) (k : Agr ρ' ρ'' H G) : Agr ρ ρ'' H G :=
 ⟨fun e he => (k.1 e he).trans (h.1 e he), fun f hf => ⟨(k.2 f hf).1.trans (h.2 f hf).1, (k.2 f hf).2.trans (h.2 f hf).2⟩⟩
theorem Hp.new (h : Hp E ρ H G w) (hE : E.ok) {n : Nat} (hf : Fresh E n H G) (ty : TypeId) (cells : List SV) {cs : Array Value} (hc : ∀ ρ', Agr ρ ρ' H G → (SV.dens ρ' cells).toArray = cs) :
    Hp E (ρ.setB n w.heap.size) (insE ⟨n, ty, cells⟩ H) G (w.alloc (.cells cs ty)) ∧ ∀ ρ'', Agr (ρ.setB n w.heap.size) ρ'' (insE ⟨n, ty, cells⟩ H) G → Agr ρ ρ'' H G ∧ ρ''.b n = w.heap.size := by
 have a0 := agr_setB (ρ := ρ) (n := n) (v := w.heap.size) hf.H hf.G
 have old : ∀ e ∈ H, (ρ.setB n w.heap.size).b e.id = ρ.b e.id := a0.1
 have new : (ρ.setB n w.heap.size).b n = w.heap.size := by simp [Nm.setB]
 have down : ∀ {ρ'}, Agr (ρ.setB n w.heap.size) ρ' (insE ⟨n, ty, cells⟩ H) G → Agr ρ ρ' H G := fun hr => ⟨fun e he => (hr.1 e (insE_mem he)).trans (old e he), fun f hf => ⟨(hr.2 f hf).1.trans (a0.2 f hf).1, (hr.2 f hf).2.trans (a0.2 f hf).2⟩⟩
 have hb : Below w.heap.size w (w.alloc (.cells cs ty)) := (Below.refl _ _).alloc (Nat.le_refl _) _
 have h2 := h.below hE hb
 have fn : ∀ f ∈ G, f.foot (ρ.setB n w.heap.size) = f.foot ρ := fun f hf => FE.foot_names (a0.2 f hf).1 (a0.2 f hf).2 rfl
 have xn : ∀ f ∈ G, f.excl (ρ.setB n w.heap.size) = f.excl ρ := fun f hf => FE.excl_names (a0.2 f hf).1 (a0.2 f hf).2
 refine ⟨⟨h2.keep, h2.size, ?_, ?_, ?_, ?_, h2.pos, ?_, ?_, ?_, ?_, ?_⟩, fun ρ'' hr => ⟨down hr, (hr.1 _ insE_self).trans new⟩⟩
 ·intro e he
  rcases mem_insE he with rfl | he
  ·rw [new]; exact h.size
  ·rw [old e he]; exact h.base e he
 ·intro ρ' hr e he
  rcases mem_insE he with rfl | he
  ·rw [new, hc ρ' (down hr)]
   exact heap_alloc_new w _
  ·rw [old e he]
   exact h2.block ρ' (down hr) e he
 ·intro e he e' he' heq
  rcases mem_insE he with rfl | he <;> rcases mem_insE he' with rfl | he'
  ·rfl
  ·rw [new, old e' he'] at heq
   have := h.lt he'
   omega
  ·rw [new, old e he] at heq
   have := h.lt he
   omega
  ·rw [old e he, old e' he'] at heq
   exact h.inj e he e' he' heq
 ·intro f hf
  rw [FE.holds_names (a0.2 f hf).1 (a0.2 f hf).2 rfl fun _ _ => rfl]
  exact h2.facts f hf
 ·intro e he f hf' hfoot
  rw [fn f hf'] at hfoot
  rcases mem_insE he with rfl | he
  ·rw [new] at hfoot
   have := h.foot_lt hf' hfoot
   omega
  ·rw [old e he] at hfoot
   exact h.apart e he f hf' hfoot
 ·refine h.alone.imp_of_mem fun {f g} hf hg hs k => ?_
  rw [fn f hf, fn g hg, xn f hf, xn g hg]
  exact hs k
 ·intro f hf k hk
  rw [xn f hf] at hk
  exact h.exB f hf k hk
 ·intro f hf k hk
  rw [fn f hf] at hk
  exact h.al f hf k hk
 ·intro i hi
  have hne : i ≠ n := by have := hf.lo; have := hf.hi; omega
  simp only [Nm.setB, if_neg hne]
  exact h.anc i hi
theorem Hp.set (h : Hp E ρ H G w) (hE : E.ok) {w' : World} {e : Ent} (he : e ∈ H) (ho : onceE H = true) (cells : List SV)
    (hw : ∀ k, k ≠ ρ.b e.id → w'.heap[k]? = w.heap[k]?) (hb : Below E.B w w') (hn : ∀ ρ', Agr ρ ρ' H G → w'.heap[ρ.b e.id]? = some (.cells (SV.dens ρ' cells).toArray e.ty (0, 0))) :
    Hp E ρ (setE H e.id cells) G w' ∧ ∀ ρ'', Agr ρ ρ'' (setE H e.id cells) G → Agr ρ ρ'' H G := by
 have ids : ∀ x ∈ setE H e.id cells, ∃ z ∈ H, z.id = x.id := fun x hx => by
  rcases mem_setE hx with hx | ⟨z, hz, _, rfl⟩
  ·exact ⟨x, hx, rfl⟩
  ·exact ⟨z, hz, rfl⟩
 have sdi : ∀ {l : List Ent} {y : Ent}, y ∈ l → ∃ z ∈ setE l e.id cells, z.id = y.id := by
  intro l
  induction l with
  | nil => intro y hy; cases hy
  | cons q l ih =>
    intro y hy
    simp only [setE]
    cases hq : nBeq q.id e.id
    ·rcases List.mem_cons.1 hy with rfl | hy
     ·exact ⟨_, List.mem_cons_self, rfl⟩
     ·obtain ⟨z, hz, hzy⟩ := ih hy
      exact ⟨z, List.mem_cons_of_mem _ hz, hzy⟩
    ·rcases List.mem_cons.1 hy with rfl | hy
     ·exact ⟨_, List.mem_cons_self, rfl⟩
     ·exact ⟨y, List.mem_cons_of_mem _ hy, rfl⟩
 have down : ∀ {ρ'}, Agr ρ ρ' (setE H e.id cells) G → Agr ρ ρ' H G := by
  intro ρ' hr
  refine ⟨fun x hx => ?_, hr.2⟩
  obtain ⟨z, hz, hzx⟩ := sdi hx
  rw [← hzx]
  exact hr.1 z hz
 refine ⟨⟨hE.keep _ _ h.keep hb, Nat.le_trans h.size hb.size, ?_, ?_, ?_, ?_, h.pos, ?_, h.alone, h.exB, h.al, h.anc⟩, fun ρ'' hr => down hr⟩
 ·intro x hx
  obtain ⟨z, hz, hzx⟩ := ids x hx
  rw [← hzx]
  exact h.base z hz
 ·intro ρ' hr x hx
  rcases mem_setE_once ho x hx with ⟨hx, hne⟩ | ⟨y, hy, hyb, rfl⟩
  ·rw [hw _ (fun e2 => hne (h.inj x hx e he e2))]
   exact h.block ρ' (down hr) x hx
  ·have := onceE_eq ho y hy e he hyb
   subst this
   exact hn ρ' (down hr)
 ·intro x hx y hy hxy
  obtain ⟨x', hx', ex⟩ := ids x hx
  obtain ⟨y', hy', ey⟩ := ids y hy
  rw [← ex, ← ey] at hxy ⊢
  exact h.inj x' hx' y' hy' hxy
 ·exact fun f hf' => FE.stable (h.facts f hf') hb.size fun k hk' => hw k (fun e2 => h.apart e he f hf' (e2 ▸ hk'))
 ·intro x hx f hf' hfoot
  obtain ⟨z, hz, hzx⟩ := ids x hx
  rw [← hzx] at hfoot
  exact h.apart z hz f hf' hfoot
theorem Hp.add (h : Hp E ρ H G w) (f : FE) (hf : Fresh E f.id H G) (s : Sl) (Z : Nat → Prop) (hc : ∀ T, f.c ≠ .codes T) (hh : f.holds (ρ.setS f.id s Z) w) (hp : ∀ e x, f.c = .rows e x → 0 < e.size)
    (hH : ∀ e ∈ H, ¬ f.foot (ρ.setS f.id s Z) (ρ.b e.id)) (hG : ∀ g ∈ G, ∀ k, (f.excl (ρ.setS f.id s Z) k → ¬ g.foot ρ k) ∧ (g.excl ρ k → ¬ f.foot (ρ.setS f.id s Z) k))
    (hB : ∀ k, f.excl (ρ.setS f.id s Z) k → E.may k ∨ E.B ≤ k) (ha : ∀ k, f.foot (ρ.setS f.id s Z) k → E.B ≤ k ∨ ∃ j ∈ f.al, E.z0 j k) :
    Hp E (ρ.setS f.id s Z) H (f :: G) w ∧ ∀ ρ'', Agr (ρ.setS f.id s Z) ρ'' H (f :: G) → Agr ρ ρ'' H G ∧ ρ''.s f.id = s := by
 have a0 := agr_setS (ρ := ρ) (H := H) (s := s) (z := Z) hf.G
 have zn : ∀ g ∈ G, (ρ.setS f.id s Z).z g.id = ρ.z g.id := fun g hg => by simp [Nm.setS, hf.G g hg]
 have fn : ∀ g ∈ G, g.foot (ρ.setS f.id s Z) = g.foot ρ := fun g hg => FE.foot_names (a0.2 g hg).1 (a0.2 g hg).2 (zn g hg)
 have xn : ∀ g ∈ G, g.excl (ρ.setS f.id s Z) = g.excl ρ := fun g hg => FE.excl_names (a0.2 g hg).1 (a0.2 g hg).2
 have down : ∀ {ρ''}, Agr (ρ.setS f.id s Z) ρ'' H (f :: G) → Agr ρ ρ'' H G := fun hr =>
  ⟨hr.1, fun g hg => ⟨(hr.2 g (List.mem_cons_of_mem _ hg)).1.trans (a0.2 g hg).1, (hr.2 g (List.mem_cons_of_mem _ hg)).2.trans (a0.2 g hg).2⟩⟩
 refine ⟨⟨h.keep, h.size, h.base, fun ρ' hr e he => h.block ρ' (down hr) e he, h.inj, ?_, ?_, ?_, ?_, ?_, ?_, ?_⟩, fun ρ'' hr => ⟨down hr, (hr.2 f List.mem_cons_self).2.trans (by simp [Nm.setS])⟩⟩
 ·intro g hg
  rcases List.mem_cons.1 hg with rfl | hg
  ·exact hh
  ·rw [FE.holds_names (a0.2 g hg).1 (a0.2 g hg).2 (zn g hg) fun k hk => by simp [Nm.setS, hf.hx hg hk]]
   exact h.facts g hg
 ·intro g hg
  rcases List.mem_cons.1 hg with rfl | hg
  ·exact hp
  ·exact h.pos g hg
 ·intro e he g hg
  rcases List.mem_cons.1 hg with rfl | hg
  ·exact hH e he
  ·rw [fn g hg]; exact h.apart e he g hg
 ·refine List.pairwise_cons.2 ⟨fun g hg k => ?_, h.alone.imp_of_mem fun {g g'} hg hg' hs k => ?_⟩
  ·rw [fn g hg, xn g hg]; exact hG g hg k
  ·rw [fn g hg, fn g' hg', xn g hg, xn g' hg']; exact hs k
 ·intro g hg k hk
  rcases List.mem_cons.1 hg with rfl | hg
  ·exact hB k hk
  ·rw [xn g hg] at hk; exact h.exB g hg k hk
 ·intro g hg k hk
  rcases List.mem_cons.1 hg with rfl | hg
  ·exact ha k hk
  ·rw [fn g hg] at hk; exact h.al g hg k hk
 ·intro i hi
  have hne : i ≠ f.id := by have := hf.lo; have := hf.hi; omega
  simp only [Nm.setS, if_neg hne]
  exact h.anc i hi
def replE : List FE → FE → List FE
 | [], _ => []
 | g :: l, f => match nBeq g.id f.id with
   | true => f :: l
   | false => g :: replE l f
theorem mem_replE {f x : FE} : ∀ {l : List FE}, x ∈ replE l f → x = f ∨ x ∈ l
 | [], h => by cases h
 | g :: l, h => by
   simp only [replE] at h
   cases hb : nBeq g.id f.id <;> rw [hb] at h
   ·rcases List.mem_cons.1 h with rfl | h
    ·exact .inr List.mem_cons_self
    ·exact (mem_replE h).imp id (List.mem_cons_of_mem _)
   ·rcases List.mem_cons.1 h with rfl | h
    ·exact .inl rfl
    ·exact .inr (List.mem_cons_of_mem _ h)
theorem replE_ids {f : FE} : ∀ {l : List FE} {x : FE}, x ∈ l → ∃ y ∈ replE l f, y.id = x.id
 | [], x, h => by cases h
 | g :: l, x, h => by
   simp only [replE]
   cases hb : nBeq g.id f.id
   ·rcases List.mem_cons.1 h with rfl | h
    ·exact ⟨_, List.mem_cons_self, rfl⟩
    ·obtain ⟨y, hy, e⟩ := replE_ids (f := f) h
     exact ⟨y, List.mem_cons_of_mem _ hy, e⟩
   ·rcases List.mem_cons.1 h with rfl | h
    ·exact ⟨f, List.mem_cons_self, (nBeq_eq hb).symm⟩
    ·exact ⟨x, List.mem_cons_of_mem _ h, rfl⟩
theorem replE_pair {R : FE → FE → Prop} {f f0 : FE} (hR : ∀ x, (R f0 x → R f x) ∧ (R x f0 → R x f)) : ∀ {l : List FE}, findE l f.id = some f0 → l.Pairwise R → (replE l f).Pairwise R
 | [], h, _ => by cases h
 | g :: l, h, hp => by
   simp only [replE]
   simp only [findE] at h
   obtain ⟨h1, h2⟩ := List.pairwise_cons.1 hp
   cases hb : nBeq g.id f.id <;> rw [hb] at h
   ·have ih := replE_pair hR h h2
    refine List.pairwise_cons.2 ⟨fun x hx => ?_, ih⟩
    rcases mem_replE hx with rfl | hx
    ·refine (hR g).2 (h1 f0 ?_)
     clear ih h2 hp h1 hx
     induction l with
     | nil => cases h
     | cons y l ih =>
       simp only [findE] at h
       cases hy : nBeq y.id x.id <;> rw [hy] at h
       ·exact List.mem_cons_of_mem _ (ih h)
       ·cases h; exact List.mem_cons_self
    ·exact h1 x hx
   ·cases h
    exact List.pairwise_cons.2 ⟨fun x hx => (hR x).1 (h1 x hx), h2⟩
theorem findE_mem : ∀ {l : List FE} {n : Nat} {f : FE}, findE l n = some f → f ∈ l ∧ f.id = n
 | [], _, _, h => by cases h
 | g :: l, n, f, h => by
   simp only [findE] at h
   cases hb : nBeq g.id n <;> rw [hb] at h
   ·exact ⟨List.mem_cons_of_mem _ (findE_mem h).1, (findE_mem h).2⟩
   ·cases h; exact ⟨List.mem_cons_self, nBeq_eq hb⟩
theorem Hp.repl (h : Hp E ρ H G w) {f0 f : FE} (hf : findE G f.id = some f0) (hh : f.holds ρ w) (hp : ∀ e x, f.c = .rows e x → 0 < e.size) (hfo : ∀ k, f.foot ρ k → f0.foot ρ k) (hex : ∀ k, f.excl ρ k → f0.excl ρ k)
    (hal : f.al = f0.al) :
    Hp E ρ H (replE G f) w ∧ ∀ ρ'', Agr ρ ρ'' H (replE G f) → Agr ρ ρ'' H G := by
 obtain ⟨hm, hid⟩ := findE_mem hf
 have down : ∀ {ρ''}, Agr ρ ρ'' H (replE G f) → Agr ρ ρ'' H G := fun hr => ⟨hr.1, fun g hg => by
  obtain ⟨y, hy, e⟩ := replE_ids (f := f) hg
  rw [← e]
  exact hr.2 y hy⟩
 refine ⟨⟨h.keep, h.size, h.base, fun ρ' hr e he => h.block ρ' (down hr) e he, h.inj, ?_, ?_, ?_, ?_, ?_, ?_, h.anc⟩, fun ρ'' hr => down hr⟩
 ·intro g hg
  rcases mem_replE hg with rfl | hg
  ·exact hh
  ·exact h.facts g hg
 ·intro g hg
  rcases mem_replE hg with rfl | hg
  ·exact hp
  ·exact h.pos g hg
 ·intro e he g hg
  rcases mem_replE hg with rfl | hg
  ·exact fun hk => h.apart e he f0 hm (hfo _ hk)
  ·exact h.apart e he g hg
 ·refine replE_pair (f0 := f0) (fun x => ⟨fun hs k => ⟨fun hk => (hs k).1 (hex k hk), fun hk hk2 => (hs k).2 hk (hfo k hk2)⟩, fun hs k => ⟨fun hk hk2 => (hs k).1 hk (hfo k hk2), fun hk => (hs k).2 (hex k hk)⟩⟩) hf h.alone
 ·intro g hg k hk
  rcases mem_replE hg with rfl | hg
  ·exact h.exB f0 hm k (hex k hk)
  ·exact h.exB g hg k hk
 ·intro g hg k hk
  rcases mem_replE hg with rfl | hg
  ·rw [hal]; exact h.al f0 hm k (hfo k hk)
  ·exact h.al g hg k hk
end fit
def deadE (f : FE) : FE := ⟨f.id, false, f.t, f.al, .dead⟩
def freeze (f : FE) : FE := ⟨f.id, false, f.t, f.al, f.c⟩
end
end Go.Proofs.YtkifmppmfkpfbaaGreat.V
