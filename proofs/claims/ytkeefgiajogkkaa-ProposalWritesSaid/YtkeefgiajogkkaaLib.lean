/- Plain lists of bytes in memory: a slice value that reads as a list of bytes. -/
import Derived.WalkKit
import Derived.Lib.Hide
import Derived.Lib.UnsafeStr
import Derived.Lib.Bytealg
import Derived.Lib.SlicesS
import Derived.WalkSmall
import Derived.Laws.OwnMore
import Derived.BigQuiet
import Derived.Deep.QuietTactic
import Derived.Deep.DeepMust
import Derived.Deep.DeepFit
namespace Go.Proofs.Ytkeefgiajogkkaa
open Go.RowKit
structure Bs (w : World) (a : Option Addr) (len cap : Nat) (l : List UInt8) : Prop where
 len_eq : l.length = len
 le : len ≤ cap
 cap_le : cap ≤ 9223372036854775807
 len_le : len ≤ 140737488355328
 cells : 0 < len → ∃ b off, a = some ⟨b, off, none⟩ ∧ ∀ i (h : i < l.length), w.cell? ⟨b, off + i, none⟩ = some (.int .u8 (l[i].toNat : Int))
theorem Bs.mono {w w' : World} {a : Option Addr} {len cap : Nat} {l : List UInt8} (h : Bs w a len cap l) (hb : Below w.heap.size w w') : Bs w' a len cap l :=
 ⟨h.len_eq, h.le, h.cap_le, h.len_le, fun hl => by
  obtain ⟨b, off, e, hc⟩ := h.cells hl
  refine ⟨b, off, e, fun i hi => ?_⟩
  have := hc i hi
  rw [hb.cell (p := ⟨b, off + i, none⟩) (World.block_lt_of_cell? w _ this)]
  exact this⟩
theorem Bs.drewN {w : World} {a : Option Addr} {len cap : Nat} {l : List UInt8} (h : Bs w a len cap l) (n : Nat) : Bs (w.drewN n) a len cap l :=
 h.mono (below_drewN (Below.refl _ _) n)
def Quiet (w w' : World) : Prop := ∃ n, w' = w.drewN n
theorem Quiet.refl (w : World) : Quiet w w := ⟨0, rfl⟩
theorem Quiet.trans {a b c : World} (h : Quiet a b) (k : Quiet b c) : Quiet a c := by
 obtain ⟨n, rfl⟩ := h; obtain ⟨m, rfl⟩ := k; exact ⟨n + m, World.drewN_drewN _ _ _⟩
theorem Quiet.drewN (w : World) (n : Nat) : Quiet w (w.drewN n) := ⟨n, rfl⟩
theorem Quiet.d {a w : World} (h : Quiet a w) (n : Nat) : Quiet a (w.drewN n) := h.trans (Quiet.drewN _ _)
theorem Quiet.d1 {a w : World} (h : Quiet a w) : Quiet a w.drew := h.trans ⟨1, rfl⟩
theorem Quiet.below {w w' : World} (h : Quiet w w') (B : Nat) : Below B w w' := by
 obtain ⟨n, rfl⟩ := h; exact below_drewN (Below.refl _ _) n
theorem Bs.quiet {w w' : World} {a : Option Addr} {len cap : Nat} {l : List UInt8} (h : Bs w a len cap l) (q : Quiet w w') : Bs w' a len cap l :=
 h.mono (q.below _)
theorem Bs.zero (w : World) (a : Option Addr) (cap : Nat) (h : cap ≤ 9223372036854775807) : Bs w a 0 cap [] := ⟨rfl, by omega, h, by omega, by omega⟩
theorem Bs.of_ints {w : World} {x : Addr} {len cap : Nat} {zs : List Int} (hl : len ≤ cap) (hz : zs.length = cap) (hc : cap ≤ 140737488351232)
    (hcell : ∀ i, i < zs.length → w.cell? (x.add i) = some (.int .u8 (zs.getD i 0))) (hwz : ∀ n ∈ zs, (Lit.int .u8 n).wf = true) :
    Bs w (some x) len cap ((zs.take len).map fun n => UInt8.ofNat n.toNat) := by
 refine ⟨by simp; omega, hl, by omega, by omega, fun hn => ?_⟩
 obtain ⟨b, off, spot⟩ := x
 have h0 := hcell 0 (by omega)
 have hspot : spot = none := by simpa [Addr.add] using World.cell?_spot h0
 subst hspot
 refine ⟨b, off, rfl, fun i hi => ?_⟩
 have hi' : i < zs.length := by simp at hi; omega
 have hcc := hcell i hi'
 have hplain : (⟨b, off, none⟩ : Addr).add i = ⟨b, off + i, none⟩ := by unfold Addr.add; split <;> simp_all
 rw [hplain] at hcc
 rw [hcc]
 have hw : (Lit.int .u8 zs[i]).wf = true := hwz _ (List.getElem_mem hi')
 have hb : 0 ≤ zs[i] ∧ zs[i] ≤ 255 := by
  simp [Lit.wf, IntKind.min, IntKind.max, IntKind.bits, IntKind.signed] at hw
  omega
 have e : zs.getD i 0 = zs[i] := by simp [List.getD, hi']
 rw [e]
 simp
 omega
theorem Bs.lit (w : World) (l : List UInt8) (xs : Array Value) (e : TypeId) (n bk : Nat) (hb : bk = w.heap.size) (hx : xs = (l.map fun x => Value.int .u8 x.toNat).toArray) (hn : n = l.length) (h : l.length ≤ 140737488351232) :
    Bs (w.alloc (.cells xs e)) (some ⟨bk, 0, none⟩) n n l := by
 subst hb hx hn
 refine ⟨rfl, Nat.le_refl _, by omega, by omega, fun _ => ⟨_, _, rfl, fun i hi => ?_⟩⟩
 simp [hi]
theorem Bs.part {w : World} {b off len cap : Nat} {l : List UInt8} (h : Bs w (some ⟨b, off, none⟩) len cap l) (at_ n c : Nat) (h1 : at_ + n ≤ len) (h2 : n ≤ c) (h3 : c ≤ 9223372036854775807) :
    Bs w (some ⟨b, off + at_, none⟩) n c ((l.drop at_).take n) := by
 have hl := h.len_eq
 have hl2 := h.len_le
 refine ⟨by simp; omega, h2, h3, by omega, fun hn => ⟨b, off + at_, rfl, fun i hi => ?_⟩⟩
 simp at hi
 obtain ⟨b', off', e, hc⟩ := h.cells (by omega)
 simp only [Option.some.injEq, Addr.mk.injEq, and_true] at e
 obtain ⟨rfl, rfl⟩ := e
 rw [Nat.add_assoc, hc (at_ + i) (by omega)]
 simp
theorem Bs.nil_of_zero {w : World} {a : Option Addr} {cap : Nat} {l : List UInt8} (h : Bs w a 0 cap l) : l = [] := List.eq_nil_of_length_eq_zero h.len_eq
theorem run_bytesOf_Bs {P : Program} {w : World} {a : Option Addr} {len cap : Nat} {l : List UInt8} (h : Bs w a len cap l) :
    (Extern.Bytes.bytesOf (.slice a len cap)).run P w = .ok ⟨l.toArray⟩ w := by
 obtain ⟨h1, h2, h3, _, h4⟩ := h
 subst h1
 cases l with
 | nil =>
   cases a with
   | none => rfl
   | some a => rfl
 | cons x l =>
   obtain ⟨b, off, rfl, hc⟩ := h4 (by simp)
   have : ∀ (l : List UInt8) (a : Addr) (acc : ByteArray), (∀ j x, l[j]? = some x → w.cell? (a.add j) = some (.int .u8 x.toNat)) →
    (Extern.Bytes.loadBytes a l.length acc).run P w = .ok ⟨acc.data ++ l.toArray⟩ w := by
    intro l
    induction l with
    | nil => intro a acc _; simp [Extern.Bytes.loadBytes]
    | cons x l ih =>
      intro a acc h
      have h0 : w.cell? a = some (.int .u8 x.toNat) := by
       have := h 0 x rfl
       simpa [Addr.add] using this
      have ih := ih (a.add 1) (acc.push x) (fun j y hy => by
       have := h (j + 1) y (by simpa using hy)
       have e : (a.add 1).add j = a.add (j + 1) := by
        unfold Addr.add
        by_cases hj : j = 0
        ·subst hj; simp
        ·simp [hj]; omega
       rw [e]; exact this)
      have hx : ((x.toNat : Int).toNat).toUInt8 = x := by simp
      simp only [List.length_cons, Extern.Bytes.loadBytes, Sem.run_bind, run_load, h0, Result.andThen, hx]
      rw [ih]
      congr 1
      apply ByteArray.ext
      simp [ByteArray.push]
   have e := this (x :: l) ⟨b, off, none⟩ .empty (fun j y hy => by
    have hj : j < (x :: l).length := by
     rcases Nat.lt_or_ge j (x :: l).length with h | h
     ·exact h
     ·rw [List.getElem?_eq_none h] at hy; cases hy
    have hplain : (⟨b, off, none⟩ : Addr).add j = ⟨b, off + j, none⟩ := by unfold Addr.add; split <;> simp_all
    rw [hplain, hc j hj]
    rw [List.getElem?_eq_getElem hj] at hy
    cases hy
    rfl)
   show (Extern.Bytes.loadBytes ⟨b, off, none⟩ (x :: l).length .empty).run P w = _
   rw [e]
   congr 1
   apply ByteArray.ext
   simp [ByteArray.empty, ByteArray.emptyWithCapacity]
   rfl
theorem run_convert_Bs {P : Program} {w : World} {a : Option Addr} {len cap : Nat} {l : List UInt8} (h : Bs w a len cap l) (src e dst : TypeId)
    (hs : P.underlying src = some (.slice e)) (he : P.underlying e = some (.int .u8)) (hd : P.underlying dst = some .string) :
    (convert src dst (.slice a len cap)).run P w = .ok (.string ⟨l.toArray⟩) w := by
 obtain ⟨h1, h2, h3, _, h4⟩ := h
 subst h1
 cases l with
 | nil =>
   cases a with
   | none => exact run_convert_bytes_nil w src e hs he _ _ dst hd
   | some a =>
     rw [run_convert_bytes_string w src dst e _ _ cap hs he hd]
     simp [Conv.bytesToString, loadCells, loadCellsFrom]
     rfl
 | cons x l =>
   obtain ⟨b, off, rfl, hc⟩ := h4 (by simp)
   generalize x :: l = l at *
   have := run_convert_bytes_arg (P := P) w src e hs he b off l.length cap (l.map fun c => (c.toNat : Int)) (by simp) (fun i hi => by
    rw [hc i hi]; simp [List.getD, hi]) dst hd
   rw [this]
   simp [strOfNums, Function.comp_def]
theorem toList_mk (l : List UInt8) : ({ data := l.toArray } : ByteArray).toList = l := by
 rw [ByteArray.toList_eq]
theorem ret_int {k : IntKind} {a b : Int} (h : a = b) : Ending.returned (.int k a) = .returned (.int k b) := by rw [h]
theorem cmp_drop (l l' : List UInt8) (k : Nat) (h : l.take k = l'.take k) : Lib.compareBytes l l' = Lib.compareBytes (l.drop k) (l'.drop k) := by
 induction k generalizing l l' with
 | zero => simp
 | succ k ih =>
   match l, l', h with
   | [], [], _ => rfl
   | [], _ :: _, h => simp at h
   | _ :: _, [], h => simp at h
   | x :: l, y :: l', h =>
     simp only [List.take_succ_cons, List.cons.injEq] at h
     obtain ⟨rfl, h⟩ := h
     simp [Lib.compareBytes, ih l l' h]
theorem cmp_here (l l' : List UInt8) (k : Nat) (h : l.take k = l'.take k) (h1 : k < l.length) (h2 : k < l'.length) :
    Lib.compareBytes l l' = if l[k].toNat < l'[k].toNat then -1 else if l'[k].toNat < l[k].toNat then 1 else Lib.compareBytes (l.drop (k + 1)) (l'.drop (k + 1)) := by
 rw [cmp_drop l l' k h, List.drop_eq_getElem_cons h1, List.drop_eq_getElem_cons h2, Lib.compareBytes]
 simp [UInt8.lt_iff_toNat_lt]
theorem cmp_neg : ∀ (l l' : List UInt8), Lib.compareBytes l' l = -Lib.compareBytes l l'
 | [], [] => rfl
 | [], _ :: _ => rfl
 | _ :: _, [] => rfl
 | x :: l, y :: l' => by
   simp only [Lib.compareBytes, UInt8.lt_iff_toNat_lt, cmp_neg l l']
   repeat' split
   all_goals omega
theorem cmp_range : ∀ (l l' : List UInt8), -1 ≤ Lib.compareBytes l l' ∧ Lib.compareBytes l l' ≤ 1
 | [], [] => by decide
 | [], _ :: _ => by simp [Lib.compareBytes]
 | _ :: _, [] => by simp [Lib.compareBytes]
 | x :: l, y :: l' => by
   have := cmp_range l l'
   simp only [Lib.compareBytes]
   repeat' split
   all_goals omega
theorem cmp_le_trans : ∀ (a b c : List UInt8), Lib.compareBytes a b ≤ 0 → Lib.compareBytes b c ≤ 0 → Lib.compareBytes a c ≤ 0
 | [], _, [], _, _ => by simp [Lib.compareBytes]
 | [], _, _ :: _, _, _ => by simp [Lib.compareBytes]
 | _ :: _, [], _, h, _ => by simp [Lib.compareBytes] at h
 | _ :: _, _ :: _, [], _, h => by simp [Lib.compareBytes] at h
 | x :: a, y :: b, z :: c, h1, h2 => by
   have ih := cmp_le_trans a b c
   simp only [Lib.compareBytes, UInt8.lt_iff_toNat_lt] at h1 h2 ⊢
   repeat' split at h1
   all_goals repeat' split at h2
   all_goals repeat' split
   all_goals omega
theorem cmp_prefix : ∀ (a c : List UInt8), Lib.compareBytes a (a ++ c) ≤ 0
 | [], [] => by simp [Lib.compareBytes]
 | [], _ :: _ => by simp [Lib.compareBytes]
 | x :: a, c => by simp [Lib.compareBytes, cmp_prefix a c]
theorem take_next (l l' : List UInt8) (k : Nat) (h : l.take k = l'.take k) (h1 : k < l.length) (h2 : k < l'.length) (h3 : ¬ l[k].toNat < l'[k].toNat) (h4 : ¬ l'[k].toNat < l[k].toNat) :
    l.take (k + 1) = l'.take (k + 1) := by
 rw [List.take_succ_eq_append_getElem h1, List.take_succ_eq_append_getElem h2, h, show l[k] = l'[k] from UInt8.toNat_inj.1 (by omega)]
theorem cmp_self : ∀ (l : List UInt8), Lib.compareBytes l l = 0
 | [] => rfl
 | x :: l => by simp [Lib.compareBytes, cmp_self l]
theorem eq_of_cmp : ∀ (l l' : List UInt8), Lib.compareBytes l l' = 0 → l = l'
 | [], [], _ => rfl
 | [], _ :: _, h => by simp [Lib.compareBytes] at h
 | _ :: _, [], h => by simp [Lib.compareBytes] at h
 | x :: l, y :: l', h => by
   simp only [Lib.compareBytes, UInt8.lt_iff_toNat_lt] at h
   split at h
   ·simp at h
   ·split at h
    ·simp at h
    ·rw [eq_of_cmp l l' h, show x = y from UInt8.toNat_inj.1 (by omega)]
theorem cmp_eq_zero (l l' : List UInt8) : (Lib.compareBytes l l' == 0) = (l == l') := by
 rw [Bool.eq_iff_iff, beq_iff_eq, beq_iff_eq]
 exact ⟨eq_of_cmp l l', fun h => h ▸ cmp_self l⟩
theorem cmp_end (l l' : List UInt8) (k : Nat) (h : l.take k = l'.take k) (h1 : k ≤ l.length) (h2 : k ≤ l'.length) (h3 : l.length ≤ k ∨ l'.length ≤ k) :
    Lib.compareBytes l l' = if l.length < l'.length then -1 else if l'.length < l.length then 1 else 0 := by
 rw [cmp_drop l l' k h]
 rcases Nat.lt_or_ge k l.length with g | g
 ·rw [List.drop_eq_getElem_cons g, List.drop_of_length_le (l := l') (by omega), Lib.compareBytes]
  rw [if_neg (by omega), if_pos (by omega)]
 ·rw [List.drop_of_length_le g]
  rcases Nat.lt_or_ge k l'.length with g' | g'
  ·rw [List.drop_eq_getElem_cons g', Lib.compareBytes]
   rw [if_pos (by omega)]
  ·rw [List.drop_of_length_le g', Lib.compareBytes]
   rw [if_neg (by omega), if_neg (by omega)]
def num (l : List UInt8) : Nat := l.foldl (fun v x => v * 256 + x.toNat) 0
theorem num_snoc (l : List UInt8) (x : UInt8) : num (l ++ [x]) = num l * 256 + x.toNat := by simp [num]
theorem num_lt (l : List UInt8) : num l < 256 ^ l.length := by
 have : ∀ (l : List UInt8) (v m : Nat), v < m → l.foldl (fun v x => v * 256 + x.toNat) v < m * 256 ^ l.length := by
  intro l
  induction l with
  | nil => intro v m h; simpa using h
  | cons x l ih =>
    intro v m h
    have hx := x.toNat_lt
    have := ih (v * 256 + x.toNat) (m * 256) (by omega)
    rw [List.foldl_cons, List.length_cons, Nat.pow_succ]
    rw [Nat.mul_comm (256 ^ l.length) 256, ← Nat.mul_assoc]
    exact this
 simpa [num] using this l 0 1 (by omega)
theorem pow256_le {n : Nat} (h : n ≤ 8) : 256 ^ n ≤ 256 ^ 8 := Nat.pow_le_pow_right (by omega) h
theorem take_snoc (l : List UInt8) (k : Nat) (h : k < l.length) : l.take (k + 1) = l.take k ++ [l[k]] := List.take_succ_eq_append_getElem h
theorem num_append (l m : List UInt8) : num (l ++ m) = num l * 256 ^ m.length + num m := by
 have : ∀ (m : List UInt8) (v : Nat), m.foldl (fun v x => v * 256 + x.toNat) v = v * 256 ^ m.length + m.foldl (fun v x => v * 256 + x.toNat) 0 := by
  intro m
  induction m with
  | nil => intro v; simp
  | cons x m ih =>
    intro v
    rw [List.foldl_cons, List.foldl_cons, ih (v * 256 + x.toNat), ih (0 * 256 + x.toNat), List.length_cons, Nat.pow_succ]
    rw [Nat.add_mul, Nat.mul_assoc, Nat.mul_comm 256 (256 ^ m.length)]
    simp [Nat.add_assoc]
 rw [num, List.foldl_append, this m]
 rfl
theorem or_step (v x : Nat) (h : v * 256 + x < 18446744073709551616) (hx : x < 256) : bits .or .u64 (IntKind.u64.wrap ((v : Int) * 256)) (IntKind.u64.wrap (x : Int)) = ((v * 256 + x : Nat) : Int) := by
 have e1 : IntKind.u64.wrap ((v : Int) * 256) = ((v * 256 : Nat) : Int) := by rw [IntKind.wrap_u64]; omega
 have e2 : IntKind.u64.wrap (x : Int) = (x : Int) := by rw [IntKind.wrap_u64]; omega
 rw [e1, e2, bits_join .u64 64 (by decide) (fun n h0 h1 => by rw [IntKind.wrap_u64]; omega) 8 _ _ (by omega) (by omega) (by omega) (by omega) (by omega) (by omega)]
 omega
theorem num_parts (l : List UInt8) (k : Nat) (hk : k ≤ l.length) (h8 : l.length ≤ 8) :
    bits .or .u64 (IntKind.u64.wrap ((num (l.take k) : Int) * 2 ^ (8 * (l.length - k)))) (num ((l.drop k).take (l.length - k)) : Int) = (num l : Int) := by
 have hd : (l.drop k).take (l.length - k) = l.drop k := List.take_of_length_le (by simp)
 rw [hd]
 have hn := num_append (l.take k) (l.drop k)
 rw [List.take_append_drop, List.length_drop] at hn
 have hlt := num_lt l
 have h256 : 256 ^ l.length ≤ 256 ^ 8 := pow256_le h8
 have hy := num_lt (l.drop k)
 rw [List.length_drop] at hy
 have e256 : 256 ^ (l.length - k) = 2 ^ (8 * (l.length - k)) := by rw [Nat.pow_mul]
 rw [e256] at hn hy
 have hy2 : 2 ^ (8 * (l.length - k)) ≤ 2 ^ 64 := Nat.pow_le_pow_right (by omega) (by omega)
 have hx : num (l.take k) * 2 ^ (8 * (l.length - k)) < 18446744073709551616 := by omega
 have e1 : IntKind.u64.wrap ((num (l.take k) : Int) * 2 ^ (8 * (l.length - k))) = ((num (l.take k) * 2 ^ (8 * (l.length - k)) : Nat) : Int) := by
  rw [IntKind.wrap_u64]
  have : ((num (l.take k) : Int) * 2 ^ (8 * (l.length - k))) = ((num (l.take k) * 2 ^ (8 * (l.length - k)) : Nat) : Int) := by simp
  rw [this]
  omega
 rw [e1, bits_join .u64 64 (by decide) (fun n h0 h1 => by rw [IntKind.wrap_u64]; omega) (8 * (l.length - k)) _ _ (by omega) (by
  have : ((num (l.take k) * 2 ^ (8 * (l.length - k)) : Nat) : Int) % 2 ^ (8 * (l.length - k)) = ((num (l.take k) * 2 ^ (8 * (l.length - k)) % 2 ^ (8 * (l.length - k)) : Nat) : Int) := by simp
  rw [this, Nat.mul_mod_left]; rfl) (by omega) (by omega) (by exact_mod_cast hy) (by omega)]
 omega
theorem num_take_lt (l : List UInt8) (k n : Nat) (hk : k < n) (hn : n ≤ 8) (x : UInt8) : num (l.take k) * 256 + x.toNat < 18446744073709551616 := by
 have h1 := num_lt (l.take k)
 have h2 : 256 ^ (l.take k).length ≤ 256 ^ 7 := Nat.pow_le_pow_right (by omega) (by have := List.length_take_le k l; omega)
 have := x.toNat_lt
 omega
def sm (l : List UInt8) : Nat := (l.zipIdx.map fun (x, i) => if i % 2 = 0 then x.toNat * 256 else x.toNat).sum
theorem sm_snoc (l : List UInt8) (x : UInt8) : sm (l ++ [x]) = sm l + if l.length % 2 = 0 then x.toNat * 256 else x.toNat := by
 simp [sm, List.zipIdx_append]
theorem sm_le (l : List UInt8) : sm l ≤ l.length * 65280 := by
 have : ∀ (n : Nat) (l : List UInt8), l.length = n → sm l ≤ n * 65280 := by
  intro n
  induction n with
  | zero => intro l h; rw [List.eq_nil_of_length_eq_zero h]; simp [sm]
  | succ n ih =>
    intro l h
    have hl : l ≠ [] := by intro e; subst e; simp at h
    rw [← List.dropLast_concat_getLast hl, sm_snoc]
    have := ih l.dropLast (by simp; omega)
    have hx := (l.getLast hl).toNat_lt
    split <;> omega
 exact this _ l rfl
theorem fold_step_val (s : Nat) (h : s ≤ 9187343239836860416) : wrap64 (bits .and .i64 (s : Int) 65535 + (s : Int) / 65536) = ((s % 65536 + s / 65536 : Nat) : Int) := by
 have e : bits .and .i64 (s : Int) 65535 = (s : Int) % 65536 := bits_mask .i64 63 (by decide) (fun n h0 h1 => by rw [IntKind.wrap_i64]; omega) 16 (by decide) s (by omega) (by omega)
 rw [e]
 unfold wrap64
 omega
def fold16 : Nat → Nat → Nat
 | 0, s => s
 | n + 1, s => if 65535 < s then fold16 n (s % 65536 + s / 65536) else s
def bvs (l : List UInt8) : List Value := l.map fun x => Value.int .u8 x.toNat
theorem bvs_length (l : List UInt8) : (bvs l).length = l.length := by simp [bvs]
theorem bvs_append (l m : List UInt8) : bvs (l ++ m) = bvs l ++ bvs m := by simp [bvs]
def Own (w : World) (B : Nat) (e : TypeId) (v : Value) (l : List UInt8) : Prop := w.ownsRow B e 1 v l.length (bvs l)
theorem Own.nil (w : World) (B : Nat) (e : TypeId) : Own w B e (.slice none 0 0) [] := World.ownsRow_nil w B e 1
theorem Own.bs {w : World} {B : Nat} {e : TypeId} {v : Value} {l : List UInt8} (h : Own w B e v l) (hl : l.length ≤ 140737488355328) :
    ∃ a cap, v = .slice a l.length cap ∧ Bs w a l.length cap l ∧ (a = none → l = []) := by
 rcases h.2 with ⟨rfl, hn⟩ | ⟨g, cap, cur, rfl, hb, hg, hc, hm, hs, ht⟩
 ·have : l = [] := List.eq_nil_of_length_eq_zero hn
  subst this
  exact ⟨none, 0, rfl, Bs.zero _ _ _ (by omega), fun _ => rfl⟩
 ·refine ⟨_, cap, rfl, ⟨rfl, hc, by simpa [maxLen] using hm, hl, fun _ => ⟨g, 0, rfl, fun i hi => ?_⟩⟩, fun h => by cases h⟩
  have hcell := World.ownsRow.cells h (g := g) rfl i (.int .u8 l[i].toNat) (by simp [bvs, hi])
  have hplain : (⟨g, 0, none⟩ : Addr).add i = ⟨g, 0 + i, none⟩ := by unfold Addr.add; split <;> simp_all
  rw [hplain] at hcell
  exact hcell
theorem Own.below {w w' : World} {B : Nat} {e : TypeId} {v : Value} {l : List UInt8} (h : Own w B e v l) (hb : Below w.heap.size w w') : Own w' B e v l := by
 refine ⟨h.1, ?_⟩
 rcases h.2 with hn | ⟨g, cap, cur, hv, hg, hh, r⟩
 ·exact .inl hn
 ·exact .inr ⟨g, cap, cur, hv, hg, by rw [hb.block g (Array.getElem?_eq_some_iff.1 hh).1]; exact hh, r⟩
theorem Own.mono {w : World} {B B' : Nat} {e : TypeId} {v : Value} {l : List UInt8} (h : Own w B e v l) (hb : B' ≤ B) : Own w B' e v l := by
 refine ⟨h.1, ?_⟩
 rcases h.2 with hn | ⟨g, cap, cur, hv, hg, r⟩
 ·exact .inl hn
 ·exact .inr ⟨g, cap, cur, hv, by omega, r⟩
theorem Bs.grown {w w' : World} {a : Option Addr} {len cap : Nat} {l : List UInt8} {row : Option Nat} (h : Bs w a len cap l) (hg : w.grownBy w' row) {B : Nat} (hr : ∀ k, row = some k → B ≤ k) (ha : ∀ x, a = some x → x.block < B) : Bs w' a len cap l :=
 ⟨h.len_eq, h.le, h.cap_le, h.len_le, fun hl => by
  obtain ⟨b, off, e, hc⟩ := h.cells hl
  refine ⟨b, off, e, fun i hi => ?_⟩
  have hbB := ha _ e
  refine hg.cell (hc i hi) (fun e2 => ?_)
  have := hr b e2.symm
  simp only at hbB
  omega⟩
def AppStop (P : Program) (ops : Array Oper) (Q : Exit → Act → World → Prop) (rest : List Oper) (o : Oper) (a : Act) (w : World) (s x : Operand) (t : TypeId) : Prop :=
 ∃ v' w', (Builtin.append_ #[t, t] o.type #[a.eval s, a.eval x]).run P w = .ok v' w' ∧ wpList P ops Q rest (a.put o.dst v') w'
theorem AppStop.mk {P : Program} {ops : Array Oper} {Q : Exit → Act → World → Prop} {rest : List Oper} {o : Oper} {a : Act} {w : World} {s x : Operand} {t : TypeId} {v' : Value} {w' : World}
    (hr : (Builtin.append_ #[t, t] o.type #[a.eval s, a.eval x]).run P w = .ok v' w') (h : wpList P ops Q rest (a.put o.dst v') w') : AppStop P ops Q rest o a w s x t := ⟨v', w', hr, h⟩
theorem stop_app {P : Program} {ops : Array Oper} {Q : Exit → Act → World → Prop} {rest : List Oper} {o : Oper} {a : Act} {w : World} {s x : Operand} {t : TypeId}
    (ho : o.op = .call { callee := .builtin .append, args := #[s, x], argTypes := #[t, t] }) (hw : Region.wanted o (yielded ops a.tmps) = true)
    (h : AppStop P ops Q rest o a w s x t) : wpList P ops Q (o :: rest) a w := by
 obtain ⟨v', w', hr, h⟩ := h
 refine wpList_step fun K hK => ?_
 rw [if_pos hw]
 unfold Oper.wp execOp
 simp only [ho, resolve, invoke, builtin, Sem.run_bind, Sem.run_pure, Result.andThen_ok, List.map_toArray, List.map_cons, List.map_nil, hr]
 exact hK _ _ h
theorem step_app {P : Program} {ops : Array Oper} {Q : Exit → Act → World → Prop} {o : Oper} {a : Act} {w : World} {K : Act → World → Prop} {E : Prop} {s x : Operand} {t : TypeId} {v' : Value} {w' : World}
    (ho : o.op = .call { callee := .builtin .append, args := #[s, x], argTypes := #[t, t] }) (hw : Region.wanted o (yielded ops a.tmps) = true)
    (hr : (Builtin.append_ #[t, t] o.type #[a.eval s, a.eval x]).run P w = .ok v' w') (h : K (a.put o.dst v') w') : if Region.wanted o (yielded ops a.tmps) = true then Oper.wp P o a w K Q else E := by
 rw [if_pos hw]
 unfold Oper.wp execOp
 simp only [ho, resolve, invoke, builtin, Sem.run_bind, Sem.run_pure, Result.andThen_ok, List.map_toArray, List.map_cons, List.map_nil, hr]
 exact h
theorem run_append_Bs {P : Program} (w : World) (B : Nat) (t ty e : TypeId) (i : TypeInfo) (ht : P.underlying t = some (.slice e)) (hi : P.info? e = some i) (hz : i.zero = some (.int .u8 0))
    (hsize : i.size = 1) (hby : i.bytes = 1) (v : Value) (l : List UInt8) (hown : Own w B e v l) (a : Option Addr) (m c : Nat) (l' : List UInt8) (h : Bs w a m c l')
    (hb : l.length + m ≤ 140737488355328) (hB : B ≤ w.heap.size) :
    ∃ v' w', (Builtin.append_ #[t, t] ty #[v, .slice a m c]).run P w = .ok v' w' ∧ Own w' B e v' (l ++ l') ∧ w.grownBy w' v.ownBlock ∧ (v' = .slice none 0 0 ↔ v = .slice none 0 0 ∧ m = 0) := by
 have hml := h.len_eq
 subst hml
 have go : ∀ ad : Addr, a = some ad → (∀ j u, (bvs l')[j]? = some u → w.cell? (ad.add j) = some u) →
     ∃ v' w', (Builtin.append_ #[t, t] ty #[v, .slice a l'.length c]).run P w = .ok v' w' ∧ Own w' B e v' (l ++ l') ∧ w.grownBy w' v.ownBlock ∧ (v' = .slice none 0 0 ↔ v = .slice none 0 0 ∧ l'.length = 0) := by
  intro ad ha hc
  subst ha
  obtain ⟨v', w', hr, h1, h2, h3⟩ := run_append_own (P := P) w B t ty e i (.int .u8 0) 1 1 ht hi hz hsize hby rfl (by decide) v l.length (bvs l) hown ad l'.length c (bvs l') (by simp [bvs]) hc
   (fun u hu => by simp only [bvs, List.mem_map] at hu; obtain ⟨x, _, rfl⟩ := hu; rfl) (by simp only [maxLen]; omega) (by omega) hB
  exact ⟨v', w', hr, by rw [Own, List.length_append, bvs_append]; exact h1, h2, h3⟩
 by_cases hl : l'.length = 0
 ·have : l' = [] := List.eq_nil_of_length_eq_zero hl
  subst this
  cases a with
  | none =>
    refine ⟨v, w, ?_, by simpa using hown, ⟨rfl, rfl, rfl, Nat.le_refl _, fun _ _ _ => rfl⟩, by simp⟩
    rcases hown.2 with ⟨rfl, hn⟩ | ⟨g, cap, cur, rfl, _, _, hnc, _⟩
    ·simp [Builtin.append_, run_underlying ht, sizeOf, typeInfo, hi, Builtin.lenOf, Builtin.firstCells]
    ·simp [Builtin.append_, run_underlying ht, sizeOf, typeInfo, hi, Builtin.lenOf, Builtin.firstCells, hnc, storeCells]
  | some ad => exact go ad rfl (by simp [bvs])
 ·obtain ⟨b, off, rfl, hc⟩ := h.cells (by omega)
  refine go _ rfl (fun j u hu => ?_)
  have hj : j < l'.length := by
   rcases Nat.lt_or_ge j l'.length with g | g
   ·exact g
   ·rw [List.getElem?_eq_none (by rw [bvs_length]; exact g)] at hu; cases hu
  have hplain : (⟨b, off, none⟩ : Addr).add j = ⟨b, off + j, none⟩ := by unfold Addr.add; split <;> simp_all
  rw [hplain, hc j hj]
  simp [bvs, hj] at hu
  rw [hu]
end Go.Proofs.Ytkeefgiajogkkaa
