import Derived.Test.YtkeefgiajogkkaaProg
import Derived.Test.YtkeefgiajogkkaaKeep
import Derived.LoopTactic
set_option linter.unusedVariables false
namespace Go.Proofs.Ytkeefgiajogkkaa
open Go.RowKit
set_option maxHeartbeats 400000 in
theorem mk_New (a : Option Addr) (len cap : Nat) (l : List UInt8) (n : Nat) (w : World) (h : Bs w a len cap l) (hn : n ≤ 1048576) :
    Calls Try.prog 8 #[.slice a len cap, .int .i64 n] w fun e w' => e = .returned (.pointer (some ⟨w.heap.size, 0, none⟩)) ∧ Cd 49 (w.heap.size + 1) w.heap.size w' ∧ Below w.heap.size w w' := by
 have ha : 0 < len → ∀ x, a = some x → x.block < w.heap.size := by
  intro hl x hx
  obtain ⟨b, off, e, hc⟩ := h.cells hl
  have := World.block_lt_of_cell? w _ (hc 0 (by have := h.len_eq; omega))
  rw [e] at hx; cases hx; exact this
 have hle := h.le
 have hcap := h.cap_le
 by_cases hlt : n < len
 ·obtain ⟨b, off, rfl, hc⟩ := h.cells (by omega)
  have hp := fun hc => h.part 0 n cap (by omega) (by omega) hc
  go_enter Try.func8, Try.ntmps8
  go_wp2
  go_ret
  refine ⟨rfl, ?_, (Below.refl _ _).alloc (Nat.le_refl _) _⟩
  exact Cd.new (hp hcap) (fun hn x hx => by cases hx; exact ha (by omega) _ rfl)
 ·go_enter Try.func8, Try.ntmps8
  go_wp2
  go_ret
  exact ⟨rfl, Cd.new h ha, (Below.refl _ _).alloc (Nat.le_refl _) _⟩
set_option maxHeartbeats 400000 in
theorem mk_Left (p n cap k : Nat) (a : Option Addr) (w : World) (hb : w.heap[p]? = some (.cells #[.slice a n cap, .int .i64 k] 49 (0, 0))) :
    Calls Try.prog 23 #[.pointer (some ⟨p, 0, none⟩)] w fun e w' => e = .returned (.bool (decide (k < n))) ∧ Quiet w w' := by
 have hc := blk_cell hb
 clear hb
 go_enter Try.func23, Try.ntmps23
 go_wp2_with fail
 go_quiet (fail)
 go_wp2_with fail
 go_ret
 exact ⟨rfl, _, rfl⟩
set_option maxHeartbeats 400000 in
theorem mk_Next (B p : Nat) (n : Int) (w : World) (h : Cd 49 B p w) (h1 : 1 ≤ n) (h2 : n ≤ 65536) :
    Calls Try.prog 11 #[.pointer (some ⟨p, 0, none⟩), .int .i64 n] w fun e w' => Nxt p n w e w' := by
 obtain ⟨a, m, cap, l, k, hb, g, ha⟩ := h.block
 by_cases hlt : k < m
 ·have hd : decide (k < m) = true := by simpa using hlt
  go_enter Try.func11, Try.ntmps11
  go_wp2_with fail
  refine (mk_Left p m cap k a w hb).mono ?_
  rw [hd]
  rintro e w1 ⟨rfl, ⟨nq, rfl⟩⟩
  have hc := blk_cell hb
  have hf := blk_free hb
  obtain ⟨b, off, rfl, hcl⟩ := g.cells (by omega)
  have hl := g.len_eq
  have ck := hcl k (by omega)
  have hlb := g.len_le
  have hx := (l[k]'(by omega)).toNat_lt
  generalize l[k]'(by omega) = x at ck hx
  obtain ⟨hbp, hbB⟩ := ha (by omega) _ rfl
  simp only at hbp hbB
  have hpb : ¬ p = b := fun e => hbp e.symm
  have ck2 : ((w.setCell ⟨p, 1, none⟩ (.int .i64 (k + 1))).cell? ⟨b, off + k, none⟩) = some (.int .u8 x.toNat) := by
   rw [World.cell?_of_block (w := w) (Below.heap_setCell _ _ _ _ hbp)]; exact ck
  have ck3 : ((w.setCell ⟨p, 1, none⟩ (.int .i64 (k + 1))).cell? ⟨p, 1, none⟩) = some (.int .i64 (k + 1)) := by
   rw [blk_cell (blk_set hb 1 _)]; rfl
  have ck4 : ((w.setCell ⟨p, 1, none⟩ (.int .i64 (k + 1))).cell? ⟨p, 0, none⟩) = some (.slice (some ⟨b, off, none⟩) m cap) := by
   rw [blk_cell (blk_set hb 1 _)]; rfl
  clear hl
  go_wp2_with fail
  go_quiet (fail)
  go_wp2_with fail
  go_ret
  exact ⟨(x.toNat : Int) % n, k + 1, _, rfl, Int.emod_nonneg _ (by omega), Int.emod_lt_of_pos _ (by omega), (World.drewN_drewN (w.setCell ⟨p, 1, none⟩ (.int .i64 ((k : Int) + 1))) _ _)⟩
 ·have hd : decide (k < m) = false := by simpa using hlt
  go_enter Try.func11, Try.ntmps11
  go_wp2_with fail
  refine (mk_Left p m cap k a w hb).mono ?_
  rw [hd]
  rintro e w1 ⟨rfl, ⟨nq, rfl⟩⟩
  have hs := Lib.hid (setCell_same hb (o := 1) (v := .int .i64 k) rfl)
  go_wp2_with fail
  go_ret
  exact ⟨0, k, nq, rfl, by omega, by omega, by rw [hs.out]⟩
end Go.Proofs.Ytkeefgiajogkkaa
