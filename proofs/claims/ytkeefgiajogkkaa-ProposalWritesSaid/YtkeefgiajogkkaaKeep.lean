/- What a call that draws choices leaves of the world. -/
import Derived.Test.YtkeefgiajogkkaaLib
import Derived.OneCell
namespace Go.Proofs.Ytkeefgiajogkkaa
open Go.RowKit
structure Keep (B p : Nat) (w w' : World) : Prop where
 os : w'.os = w.os
 tape : w'.tape = w.tape
 output : w'.output = w.output
 size : w.heap.size ≤ w'.heap.size
 block : ∀ k, k < B → k ≠ p → w'.heap[k]? = w.heap[k]?
theorem Keep.refl (B p : Nat) (w : World) : Keep B p w w := ⟨rfl, rfl, rfl, Nat.le_refl _, fun _ _ _ => rfl⟩
theorem Keep.trans {B p : Nat} {a b c : World} (h : Keep B p a b) (k : Keep B p b c) : Keep B p a c :=
 ⟨k.os.trans h.os, k.tape.trans h.tape, k.output.trans h.output, Nat.le_trans h.size k.size, fun i hi hp => (k.block i hi hp).trans (h.block i hi hp)⟩
theorem Keep.mono {B B' p : Nat} {w w' : World} (h : Keep B p w w') (hB : B' ≤ B) : Keep B' p w w' := ⟨h.os, h.tape, h.output, h.size, fun k hk hp => h.block k (Nat.lt_of_lt_of_le hk hB) hp⟩
theorem Keep.of_below {B p : Nat} {w w' : World} (h : Below B w w') : Keep B p w w' := ⟨h.os, h.tape, h.output, h.size, fun k hk _ => h.block k hk⟩
theorem Keep.then {B p : Nat} {a b c : World} (h : Keep B p a b) (k : Below B b c) : Keep B p a c := h.trans (.of_below k)
theorem Keep.alloc {B p : Nat} {a w : World} (h : Keep B p a w) (hB : B ≤ w.heap.size) (o : Obj) : Keep B p a (w.alloc o) := h.then ((Below.refl _ _).alloc hB o)
theorem Keep.drew {B p : Nat} {a w : World} (h : Keep B p a w) : Keep B p a w.drew := h.then (Below.refl _ _).drew
theorem Keep.drewN {B p : Nat} {a w : World} (h : Keep B p a w) (n : Nat) : Keep B p a (w.drewN n) := h.then (below_drewN (Below.refl _ _) n)
theorem Keep.setCell {B p : Nat} {a w : World} (h : Keep B p a w) {x : Addr} (hx : B ≤ x.block ∨ x.block = p) (u : Value) : Keep B p a (w.setCell x u) :=
 h.trans ⟨rfl, rfl, rfl, by simp [World.setCell], fun k hk hp => Below.heap_setCell _ _ _ _ (by omega)⟩
theorem Keep.below {B p : Nat} {w w' : World} (h : Keep B p w w') (hp : B ≤ p) : Below B w w' := ⟨h.os, h.tape, h.output, h.size, fun k hk => h.block k hk (by omega)⟩
theorem Keep.cell {B p : Nat} {w w' : World} (h : Keep B p w w') {a : Addr} {v : Value} (hc : w.cell? a = some v) (hB : a.block < B) (hp : a.block ≠ p) : w'.cell? a = some v :=
 (World.cell?_of_block (h.block a.block hB hp)).trans hc
theorem Keep.blk {B p : Nat} {w w' : World} (h : Keep B p w w') {b : Nat} {o : Obj} (hb : w.heap[b]? = some o) (hB : b < B) (hp : b ≠ p) : w'.heap[b]? = some o := (h.block b hB hp).trans hb
theorem Bs.keep {w w' : World} {a : Option Addr} {len cap : Nat} {l : List UInt8} {p : Nat} (h : Bs w a len cap l) (K : Keep w.heap.size p w w') (ha : 0 < len → ∀ x, a = some x → x.block ≠ p) : Bs w' a len cap l :=
 ⟨h.len_eq, h.le, h.cap_le, h.len_le, fun hl => by
  obtain ⟨b, off, e, hc⟩ := h.cells hl
  exact ⟨b, off, e, fun i hi => K.cell (hc i hi) (World.block_lt_of_cell? w _ (hc i hi)) (ha hl ⟨b, off, none⟩ e)⟩⟩
theorem Below.setc {B : Nat} {w w' : World} {x : Addr} {u : Value} (hx : B ≤ x.block) (h : Below B w w') : Below B w (w'.setCell x u) := h.setCell hx u
theorem Below.newb {B : Nat} {w w' : World} {o : Obj} (hx : B ≤ w'.heap.size) (h : Below B w w') : Below B w (w'.alloc o) := h.alloc hx o
theorem blk_cell {w : World} {b : Nat} {cs : Array Value} {T : TypeId} (h : w.heap[b]? = some (.cells cs T (0, 0))) (o : Nat) : w.cell? ⟨b, o, none⟩ = cs[o]? := by simp [World.cell?, h]
theorem blk_free {w : World} {b : Nat} {cs : Array Value} {T : TypeId} (h : w.heap[b]? = some (.cells cs T (0, 0))) (o : Nat) : w.frozen? ⟨b, o, none⟩ = false := by simp [World.frozen?, h]
theorem blk_new (w : World) (o : Obj) (b : Nat) (h : b = w.heap.size) : (w.alloc o).heap[b]? = some o := by subst h; exact heap_alloc_new w o
theorem blk_old {w : World} {x : Obj} {b : Nat} (h : w.heap[b]? = some x) (o : Obj) : (w.alloc o).heap[b]? = some x := by
 rw [Below.heap_alloc w o b (lt_of_block h)]; exact h
theorem blk_set {w : World} {b : Nat} {cs : Array Value} {T : TypeId} (h : w.heap[b]? = some (.cells cs T (0, 0))) (o : Nat) (v : Value) : (w.setCell ⟨b, o, none⟩ v).heap[b]? = some (.cells (cs.setIfInBounds o v) T (0, 0)) := by
 show (w.heap.modify b _)[b]? = _
 rw [Array.getElem?_modify, if_pos rfl, h]
 rfl
theorem blk_other {w : World} {x : Obj} {b : Nat} (h : w.heap[b]? = some x) (a : Addr) (v : Value) (hne : b ≠ a.block) : (w.setCell a v).heap[b]? = some x := by
 rw [Below.heap_setCell _ _ _ _ hne]; exact h
structure Cd (T : TypeId) (B p : Nat) (w : World) : Prop where
 lt : p < B
 size : B ≤ w.heap.size
 block : ∃ a n cap l, ∃ k : Nat, w.heap[p]? = some (.cells #[.slice a n cap, .int .i64 k] T (0, 0)) ∧ Bs w a n cap l ∧ (0 < n → ∀ x, a = some x → x.block ≠ p ∧ x.block < B)
theorem Cd.keep {T : TypeId} {B p : Nat} {w w' : World} (h : Cd T B p w) (hb : Below B w w') : Cd T B p w' := by
 obtain ⟨a, n, cap, l, k, h1, h2, h4⟩ := h.block
 refine ⟨h.lt, Nat.le_trans h.size hb.size, a, n, cap, l, k, by rw [hb.block p h.lt]; exact h1, ⟨h2.len_eq, h2.le, h2.cap_le, h2.len_le, fun hl => ?_⟩, h4⟩
 obtain ⟨b, off, e, hc⟩ := h2.cells hl
 refine ⟨b, off, e, fun i hi => ?_⟩
 rw [hb.cell (p := ⟨b, off + i, none⟩) (h4 hl ⟨b, off, none⟩ e).2]
 exact hc i hi
theorem Cd.alloc {T : TypeId} {B p : Nat} {w : World} (h : Cd T B p w) (o : Obj) : Cd T B p (w.alloc o) := h.keep ((Below.refl _ _).alloc h.size o)
theorem Cd.drew {T : TypeId} {B p : Nat} {w : World} (h : Cd T B p w) : Cd T B p w.drew := h.keep (Below.refl _ _).drew
theorem Cd.drewN {T : TypeId} {B p : Nat} {w : World} (h : Cd T B p w) (n : Nat) : Cd T B p (w.drewN n) := h.keep (below_drewN (Below.refl _ _) n)
theorem Cd.setCell {T : TypeId} {B p : Nat} {w : World} (h : Cd T B p w) {x : Addr} (hx : B ≤ x.block) (u : Value) : Cd T B p (w.setCell x u) := h.keep ((Below.refl _ _).setCell hx u)
theorem Cd.new {T : TypeId} {w : World} {a : Option Addr} {n cap : Nat} {l : List UInt8} (h : Bs w a n cap l) (ha : 0 < n → ∀ x, a = some x → x.block < w.heap.size) :
    Cd T (w.heap.size + 1) w.heap.size (w.alloc (.cells #[.slice a n cap, .int .i64 0] T)) :=
 ⟨by omega, by simp, a, n, cap, l, 0, blk_new w _ _ rfl, h.mono ((Below.refl _ _).alloc (Nat.le_refl _) _), fun hn x hx => by have := ha hn x hx; omega⟩
theorem Cd.put {T : TypeId} {B p : Nat} {w : World} (h : Cd T B p w) (k : Nat) : Cd T B p (w.setCell ⟨p, 1, none⟩ (.int .i64 k)) := by
 obtain ⟨a, n, cap, l, k0, hb, g, ha⟩ := h.block
 refine ⟨h.lt, by have := h.size; simp [World.setCell]; exact this, a, n, cap, l, k, ?_, ?_, ha⟩
 ·have := blk_set hb 1 (.int .i64 (k : Int))
  simpa using this
 ·exact g.keep ((Keep.refl w.heap.size p w).setCell (.inr rfl) _) (fun hn x hx => (ha hn x hx).1)
theorem setCell_same {w : World} {b : Nat} {cs : Array Value} {T : TypeId} {o : Nat} {v : Value} (h : w.heap[b]? = some (.cells cs T (0, 0))) (hv : cs[o]? = some v) : w.setCell ⟨b, o, none⟩ v = w := by
 have hlt := lt_of_block h
 have ho : o < cs.size := (Array.getElem?_eq_some_iff.1 hv).1
 have key : (w.setCell ⟨b, o, none⟩ v).heap = w.heap := by
  apply Array.ext_getElem?
  intro i
  by_cases e : i = b
  ·subst e
   rw [blk_set h o v, h]
   congr 2
   apply Array.ext_getElem?
   intro j
   rw [Array.getElem?_setIfInBounds]
   split
   ·rename_i e; subst e; exact hv.symm
   ·rfl
  ·exact Below.heap_setCell _ _ _ _ e
 show { w with heap := (w.setCell ⟨b, o, none⟩ v).heap } = w
 rw [key]
structure Drew (T : TypeId) (B p : Nat) (w w' : World) : Prop where
 cd : Cd T B p w'
 keep : Keep w.heap.size p w w'
theorem Drew.of_below {T : TypeId} {B p : Nat} {w w' : World} (h : Cd T B p w) (hb : Below w.heap.size w w') : Drew T B p w w' := ⟨h.keep (hb.mono h.size), .of_below hb⟩
theorem Drew.put {T : TypeId} {B p : Nat} {a w : World} (h : Drew T B p a w) (k : Nat) : Drew T B p a (w.setCell ⟨p, 1, none⟩ (.int .i64 k)) := ⟨h.cd.put k, h.keep.setCell (.inr rfl) _⟩
theorem Cd.set2 {T : TypeId} {B p : Nat} {w : World} {x : Addr} {u : Value} (hx : B ≤ x.block) (h : Cd T B p w) : Cd T B p (w.setCell x u) := h.setCell hx u
def lit (l : List Int) (x : Int) : Int := l.getD x.toNat 0
def Nxt (p : Nat) (n : Int) (w : World) (e : Ending) (w' : World) : Prop := ∃ (x : Int) (k m : Nat), e = .returned (.int .i64 x) ∧ 0 ≤ x ∧ x < n ∧ w' = (w.setCell ⟨p, 1, none⟩ (.int .i64 k)).drewN m
def IntIn (k : IntKind) (lo hi : Int) (e : Ending) : Prop := ∃ x : Int, e = .returned (.int k x) ∧ lo ≤ x ∧ x < hi
theorem Drew.trans {T : TypeId} {B p : Nat} {a b c : World} (h : Drew T B p a b) (k : Drew T B p b c) : Drew T B p a c := ⟨k.cd, h.keep.trans (k.keep.mono h.keep.size)⟩
theorem Drew.refl {T : TypeId} {B p : Nat} {w : World} (h : Cd T B p w) : Drew T B p w w := ⟨h, .refl _ _ _⟩
theorem Drew.alloc {T : TypeId} {B p : Nat} {a w : World} (h : Drew T B p a w) (o : Obj) : Drew T B p a (w.alloc o) := ⟨h.cd.alloc o, h.keep.alloc h.keep.size o⟩
theorem Drew.drew {T : TypeId} {B p : Nat} {a w : World} (h : Drew T B p a w) : Drew T B p a w.drew := ⟨h.cd.drew, h.keep.drew⟩
theorem Drew.drewN {T : TypeId} {B p : Nat} {a w : World} (h : Drew T B p a w) (n : Nat) : Drew T B p a (w.drewN n) := ⟨h.cd.drewN n, h.keep.drewN n⟩
theorem Drew.setCell {T : TypeId} {B p : Nat} {a w : World} (h : Drew T B p a w) {x : Addr} (hB : B ≤ a.heap.size) (hx : a.heap.size ≤ x.block) (u : Value) : Drew T B p a (w.setCell x u) :=
 ⟨h.cd.setCell (Nat.le_trans hB hx) u, h.keep.setCell (.inl hx) u⟩
theorem Drew.set2 {T : TypeId} {B p : Nat} {a w : World} {x : Addr} {u : Value} (hB : B ≤ a.heap.size) (hx : a.heap.size ≤ x.block) (h : Drew T B p a w) : Drew T B p a (w.setCell x u) := h.setCell hB hx u
theorem Drew.then {T : TypeId} {B p : Nat} {a b c : World} (h : Drew T B p a b) (k : Below b.heap.size b c) : Drew T B p a c := ⟨h.cd.keep (k.mono h.cd.size), h.keep.then (k.mono h.keep.size)⟩
theorem ret_cell {P : Program} {fn : Func} {R : Ending → World → Prop} {a : Act} {W : World} {s : Tmp} {T t : TypeId} {b : Nat} {cs cs' : Array Value} {fr : Nat × Nat} {d : TypeDesc}
    (hres : fn.results = #[.cell s T]) (hu : P.underlying T = some d) (hdd : (match d with | .struct _ | .array _ _ => true | _ => false) = true) (hi : (P.info? T).map (·.size) = some cs.size)
    (hs : a.tmps.getD s undef = .pointer (some ⟨b, 0, none⟩)) (hd : a.defers = []) (hb : W.heap[b]? = some (.cells cs t fr)) (hcs : cs = cs') (hR : R (.returned (.agg cs')) W) : bodyPost P fn R .ret a W := by
 subst hcs
 refine bodyPost_ret ?_ hd hR
 have hl := run_loadVar_row (P := P) W b t T cs fr d hb hu hdd hi
 simp only [Array.getD_eq_getD_getElem?] at hs
 simp only [results, hres]
 simp [hs, asAddr, hl]
theorem ret_cell_ex {P : Program} {fn : Func} {R : Ending → World → Prop} {a : Act} {W : World} {s : Tmp} {T : TypeId} {n : Nat} (b : Nat) {d : TypeDesc} (hi : (P.info? T).map (·.size) = some n)
    (hres : fn.results = #[.cell s T]) (hu : P.underlying T = some d) (hdd : (match d with | .struct _ | .array _ _ => true | _ => false) = true)
    (hs : a.tmps.getD s undef = .pointer (some ⟨b, 0, none⟩)) (hd : a.defers = [])
    (h : ∃ cs t, W.heap[b]? = some (.cells cs t (0, 0)) ∧ cs.size = n ∧ R (.returned (.agg cs)) W) : bodyPost P fn R .ret a W := by
 obtain ⟨cs, t, hb, rfl, hR⟩ := h
 exact ret_cell hres hu hdd hi hs hd hb rfl hR
theorem ret_cell_tmp {P : Program} {fn : Func} {R : Ending → World → Prop} {a : Act} {W : World} {s u : Tmp} {T t : TypeId} {b : Nat} {cs cs' : Array Value} {fr : Nat × Nat} {d : TypeDesc}
    (hres : fn.results = #[.cell s T, .tmp u]) (hu : P.underlying T = some d) (hdd : (match d with | .struct _ | .array _ _ => true | _ => false) = true) (hi : (P.info? T).map (·.size) = some cs.size)
    (hs : a.tmps.getD s undef = .pointer (some ⟨b, 0, none⟩)) (hd : a.defers = []) (hb : W.heap[b]? = some (.cells cs t fr)) (hcs : cs = cs') (hR : R (.returned (.tuple #[.agg cs', a.tmps.getD u undef])) W) : bodyPost P fn R .ret a W := by
 subst hcs
 refine bodyPost_ret ?_ hd hR
 have hl := run_loadVar_row (P := P) W b t T cs fr d hb hu hdd hi
 simp only [Array.getD_eq_getD_getElem?] at hs
 simp only [results, hres]
 simp [hs, asAddr, hl, Result.andThen]
theorem ret_cell2 {P : Program} {fn : Func} {R : Ending → World → Prop} {a : Act} {W : World} {s s2 : Tmp} {T t T2 t2 : TypeId} {b b2 : Nat} {cs cs' cs2 cs2' : Array Value} {fr fr2 : Nat × Nat} {d d2 : TypeDesc}
    (hres : fn.results = #[.cell s T, .cell s2 T2]) (hu : P.underlying T = some d) (hdd : (match d with | .struct _ | .array _ _ => true | _ => false) = true) (hi : (P.info? T).map (·.size) = some cs.size)
    (hu2 : P.underlying T2 = some d2) (hdd2 : (match d2 with | .struct _ | .array _ _ => true | _ => false) = true) (hi2 : (P.info? T2).map (·.size) = some cs2.size)
    (hs : a.tmps.getD s undef = .pointer (some ⟨b, 0, none⟩)) (hs2 : a.tmps.getD s2 undef = .pointer (some ⟨b2, 0, none⟩)) (hd : a.defers = []) (hb : W.heap[b]? = some (.cells cs t fr)) (hb2 : W.heap[b2]? = some (.cells cs2 t2 fr2)) (hcs : cs = cs') (hcs2 : cs2 = cs2')
    (hR : R (.returned (.tuple #[.agg cs', .agg cs2'])) W) : bodyPost P fn R .ret a W := by
 subst hcs hcs2
 refine bodyPost_ret ?_ hd hR
 have hl := run_loadVar_row (P := P) W b t T cs fr d hb hu hdd hi
 have hl2 := run_loadVar_row (P := P) W b2 t2 T2 cs2 fr2 d2 hb2 hu2 hdd2 hi2
 simp only [Array.getD_eq_getD_getElem?] at hs hs2
 simp only [results, hres]
 simp [hs, hs2, asAddr, hl, hl2, Sem.run_bind, Result.andThen]
theorem blk_other2 {w : World} {x : Obj} {b : Nat} {a : Addr} {v : Value} (hne : b ≠ a.block) (h : w.heap[b]? = some x) : (w.setCell a v).heap[b]? = some x := blk_other h a v hne
theorem blk_eq {w : World} {b : Nat} {cs cs' : Array Value} {T : TypeId} {fr : Nat × Nat} (h : w.heap[b]? = some (.cells cs T fr)) (e : cs = cs') : w.heap[b]? = some (.cells cs' T fr) := e ▸ h
theorem blk_drewN {w : World} {b : Nat} {x : Obj} (h : w.heap[b]? = some x) (n : Nat) : (w.drewN n).heap[b]? = some x := h
theorem blk_drew {w : World} {b : Nat} {x : Obj} (h : w.heap[b]? = some x) : w.drew.heap[b]? = some x := h
end Go.Proofs.Ytkeefgiajogkkaa
