import Derived.Test.YtiinlanpinanhaaProg
import Derived.Test.YtiinlanpinanhaaKeep
import Derived.Test.YtiinlanpinanhaaSelVal
import Derived.Test.YtiinlanpinanhaaBits
import Derived.LoopTactic
import Derived.Deep.RegionWith
import Derived.Deep.DeepCutAuto
set_option linter.unusedVariables false
namespace Go.Proofs.Ytiinlanpinanhaa
open Go.RowKit

set_option maxHeartbeats 400000 in
theorem ref_Valid (f h l : Int) (w : World) :
    Calls Try.prog 36 #[.agg #[.int .i64 f, .int .u64 h, .int .u64 l]] w fun e w' => e = .returned (.bool (valid ⟨f, h, l⟩)) ∧ Below w.heap.size w w' := by
  go_enter Try.func36, Try.ntmps36
  go_wp2
  all_goals
    go_ret
    refine ⟨?_, by repeat (first | exact Below.refl _ _ | assumption | refine Below.alloc ?_ (by first | (simp; done) | (simp; omega)) _ | refine Below.drew ?_ | refine below_drewN ?_ _)⟩
    first | (simp [valid, *]; done) | (by_cases h6 : f = 6 <;> simp [valid, *])

def bt (f : Int) : Nat := if f = 4 then 32 else 128
set_option maxHeartbeats 400000 in
theorem ref_bits (f : Int) (w : World) :
    Calls Try.prog 112 #[.int .i64 f] w fun e w' => e = .returned (.int .i64 (bt f)) ∧ w = w' := by
  by_cases h : f = 4
  · subst h
    go_enter Try.func112, Try.ntmps112
    go_wp2
    go_ret
    exact ⟨rfl, rfl⟩
  · have e : (bt f : Int) = 128 := by simp [bt, h]
    rw [e]
    go_enter Try.func112, Try.ntmps112
    go_wp2
    go_ret
    exact ⟨rfl, rfl⟩

def pL (f : Int) (H L m : Nat) : Adr := ⟨f, cl H (m - 64) 0, cl L (min m 64) 0⟩
def pH (f : Int) (H L m : Nat) : Adr := ⟨f, st H (m - 64) 0, st L (min m 64) 0⟩
/-- The memory of Prefix: the address, the results, the two bounds at the bit t. -/
structure PM (w wx : World) (f : Int) (H L m t bl bh : Nat) : Prop where
  b0 : wx.heap[w.heap.size]? = some (.cells #[.int .i64 f, .int .u64 H, .int .u64 L] 28 (0, 0))
  b1 : wx.heap[w.heap.size + 1]? = some (.cells #[.int .i64 0, .int .u64 0, .int .u64 0] 28 (0, 0))
  b2 : wx.heap[w.heap.size + 1 + 1]? = some (.cells #[.int .i64 0, .int .u64 0, .int .u64 0] 28 (0, 0))
  lo : wx.heap[bl]? = some (.cells #[.int .i64 f, .int .u64 (cl H (m - 64) (t - 64)), .int .u64 (cl L (min m 64) (min t 64))] 28 (0, 0))
  hi : wx.heap[bh]? = some (.cells #[.int .i64 f, .int .u64 (st H (m - 64) (t - 64)), .int .u64 (st L (min m 64) (min t 64))] 28 (0, 0))
  ne : bl ≠ bh
  ll : w.heap.size + 3 ≤ bl
  lh : w.heap.size + 3 ≤ bh
  bel : Below w.heap.size w wx

theorem PM.start {w w1 : World} {f : Int} {H L : Nat} (h0 : w1.heap[w.heap.size]? = some (.cells #[.int .i64 f, .int .u64 H, .int .u64 L] 28 (0, 0)))
    (h1 : w1.heap[w.heap.size + 1]? = some (.cells #[.int .i64 0, .int .u64 0, .int .u64 0] 28 (0, 0)))
    (h2 : w1.heap[w.heap.size + 1 + 1]? = some (.cells #[.int .i64 0, .int .u64 0, .int .u64 0] 28 (0, 0)))
    (hb : Below w.heap.size w w1) (hs : w.heap.size + 3 ≤ w1.heap.size) (m bl bh : Nat) (h : (bl = w1.heap.size ∧ bh = w1.heap.size + 1) ∨ (bl = w1.heap.size + 1 ∧ bh = w1.heap.size)) :
    PM w ((w1.alloc (.cells #[.int .i64 f, .int .u64 H, .int .u64 L] 28)).alloc (.cells #[.int .i64 f, .int .u64 H, .int .u64 L] 28)).drew f H L m m bl bh := by
  have n0 : ((w1.alloc (.cells #[.int .i64 f, .int .u64 H, .int .u64 L] 28)).alloc (.cells #[.int .i64 f, .int .u64 H, .int .u64 L] 28)).drew.heap[w1.heap.size]? = some (.cells #[.int .i64 f, .int .u64 H, .int .u64 L] 28 (0, 0)) :=
    blk_old (blk_new _ _ _ rfl) _
  have n1 : ((w1.alloc (.cells #[.int .i64 f, .int .u64 H, .int .u64 L] 28)).alloc (.cells #[.int .i64 f, .int .u64 H, .int .u64 L] 28)).drew.heap[w1.heap.size + 1]? = some (.cells #[.int .i64 f, .int .u64 H, .int .u64 L] 28 (0, 0)) :=
    blk_new _ _ _ (by simp)
  refine ⟨blk_old (blk_old h0 _) _, blk_old (blk_old h1 _) _, blk_old (blk_old h2 _) _, ?_, ?_, by omega, by omega, by omega, (((hb.alloc (by omega) _).alloc (by simp; omega) _).drew)⟩
  · rw [cl_full, cl_full]; rcases h with ⟨rfl, rfl⟩ | ⟨rfl, rfl⟩ <;> assumption
  · rw [st_full, st_full]; rcases h with ⟨rfl, rfl⟩ | ⟨rfl, rfl⟩ <;> assumption

theorem wrap_pow (e : Nat) (h : e < 64) : IntKind.u64.wrap ((2 : Int) ^ e) = ((2 ^ e : Nat) : Int) := by
  have h1 : 2 ^ e < 2 ^ 64 := Nat.pow_lt_pow_right (by decide) h
  have h2 : ((2 : Int) ^ e) = ((2 ^ e : Nat) : Int) := by push_cast; rfl
  rw [h2, IntKind.wrap_u64]
  generalize 2 ^ e = q at h1
  omega
theorem ret_cell2_tmp {P : Program} {fn : Func} {R : Ending → World → Prop} {a : Act} {W : World} {s s2 u : Tmp} {T T2 : TypeId} {n n2 : Nat} (b b2 : Nat) {d d2 : TypeDesc}
    (hi : (P.info? T).map (·.size) = some n) (hi2 : (P.info? T2).map (·.size) = some n2)
    (hres : fn.results = #[.cell s T, .cell s2 T2, .tmp u]) (hu : P.underlying T = some d) (hdd : (match d with | .struct _ | .array _ _ => true | _ => false) = true)
    (hu2 : P.underlying T2 = some d2) (hdd2 : (match d2 with | .struct _ | .array _ _ => true | _ => false) = true)
    (hs : a.tmps.getD s undef = .pointer (some ⟨b, 0, none⟩)) (hs2 : a.tmps.getD s2 undef = .pointer (some ⟨b2, 0, none⟩)) (hd : a.defers = [])
    (h : ∃ cs t cs2 t2, W.heap[b]? = some (.cells cs t (0, 0)) ∧ W.heap[b2]? = some (.cells cs2 t2 (0, 0)) ∧ cs.size = n ∧ cs2.size = n2 ∧ R (.returned (.tuple #[.agg cs, .agg cs2, a.tmps.getD u undef])) W) : bodyPost P fn R .ret a W := by
  obtain ⟨cs, t, cs2, t2, hb, hb2, rfl, rfl, hR⟩ := h
  refine bodyPost_ret ?_ hd hR
  have hl := run_loadVar_row (P := P) W b t T cs (0, 0) d hb hu hdd hi
  have hl2 := run_loadVar_row (P := P) W b2 t2 T2 cs2 (0, 0) d2 hb2 hu2 hdd2 hi2
  simp only [Array.getD_eq_getD_getElem?] at hs hs2
  simp only [results, hres]
  simp [hs, hs2, asAddr, hl, hl2, Sem.run_bind, Result.andThen]
theorem ret_cell2_ex {P : Program} {fn : Func} {R : Ending → World → Prop} {a : Act} {W : World} {s s2 : Tmp} {T T2 : TypeId} {n n2 : Nat} (b b2 : Nat) {d d2 : TypeDesc}
    (hi : (P.info? T).map (·.size) = some n) (hi2 : (P.info? T2).map (·.size) = some n2)
    (hres : fn.results = #[.cell s T, .cell s2 T2]) (hu : P.underlying T = some d) (hdd : (match d with | .struct _ | .array _ _ => true | _ => false) = true)
    (hu2 : P.underlying T2 = some d2) (hdd2 : (match d2 with | .struct _ | .array _ _ => true | _ => false) = true)
    (hs : a.tmps.getD s undef = .pointer (some ⟨b, 0, none⟩)) (hs2 : a.tmps.getD s2 undef = .pointer (some ⟨b2, 0, none⟩)) (hd : a.defers = [])
    (h : ∃ cs t cs2 t2, W.heap[b]? = some (.cells cs t (0, 0)) ∧ W.heap[b2]? = some (.cells cs2 t2 (0, 0)) ∧ cs.size = n ∧ cs2.size = n2 ∧ R (.returned (.tuple #[.agg cs, .agg cs2])) W) : bodyPost P fn R .ret a W := by
  obtain ⟨cs, t, cs2, t2, hb, hb2, rfl, rfl, hR⟩ := h
  exact ret_cell2 hres hu hdd hi hu2 hdd2 hi2 hs hs2 hd hb hb2 rfl rfl hR
theorem pfxSize : (Try.prog.info? 28).map (·.size) = some 3 := by kernel_rfl
theorem PM.set {w wr : World} {f : Int} {H L m t t' bl bh : Nat} (M : PM w wr f H L m t bl bh) (o : Nat) (v v' : Value)
    (h1 : (#[.int .i64 f, .int .u64 (cl H (m - 64) (t - 64)), .int .u64 (cl L (min m 64) (min t 64))] : Array Value).setIfInBounds o v = #[.int .i64 f, .int .u64 (cl H (m - 64) (t' - 64)), .int .u64 (cl L (min m 64) (min t' 64))])
    (h2 : (#[.int .i64 f, .int .u64 (st H (m - 64) (t - 64)), .int .u64 (st L (min m 64) (min t 64))] : Array Value).setIfInBounds o v' = #[.int .i64 f, .int .u64 (st H (m - 64) (t' - 64)), .int .u64 (st L (min m 64) (min t' 64))]) :
    PM w ((wr.setCell ⟨bl, o, none⟩ v).setCell ⟨bh, o, none⟩ v') f H L m t' bl bh := by
  have hl := M.ll; have hh := M.lh; have hne := M.ne
  refine ⟨blk_other (blk_other M.b0 _ _ (by simp only; omega)) _ _ (by simp only; omega), blk_other (blk_other M.b1 _ _ (by simp only; omega)) _ _ (by simp only; omega), blk_other (blk_other M.b2 _ _ (by simp only; omega)) _ _ (by simp only; omega), ?_, ?_, M.ne, M.ll, M.lh, ?_⟩
  · rw [← h1]; exact blk_other (blk_set M.lo _ _) _ _ (by simpa using M.ne)
  · rw [← h2]; exact blk_set (blk_other M.hi _ _ (by simpa using fun e : bh = bl => M.ne e.symm)) _ _
  · exact (M.bel.setCell (by simp only; omega) _).setCell (by simp only; omega) _
theorem PM.stepHi {w wr : World} {f : Int} {H L B n k bl bh : Nat} (M : PM w wr f H L (B - n) (B - k) bl bh) (hk : k < B) (hn : n ≤ k) (hB : B ≤ 128) (h64 : 64 ≤ B - 1 - k) (hH : H < 18446744073709551616) :
    PM w ((wr.setCell ⟨bl, 1, none⟩ (.int .u64 (bits .andNot .u64 (cl H (B - n - 64) (B - k - 64)) (IntKind.u64.wrap (2 ^ (B - 1 - k - 64)))))).setCell ⟨bh, 1, none⟩ (.int .u64 (bits .or .u64 (st H (B - n - 64) (B - k - 64)) (IntKind.u64.wrap (2 ^ (B - 1 - k - 64)))))) f H L (B - n) (B - (k + 1)) bl bh := by
  obtain ⟨e, he⟩ : ∃ e, B - 1 - k - 64 = e := ⟨_, rfl⟩
  have e1 : B - k - 64 = e + 1 := by omega
  have e2 : B - (k + 1) - 64 = e := by omega
  have e3 : min (B - (k + 1)) 64 = min (B - k) 64 := by omega
  have a1 := cl_step H (B - n - 64) e (by omega) (by omega) hH
  have a2 := st_step H (B - n - 64) e (by omega) (by omega) hH
  rw [he, e1, wrap_pow e (by omega), a1, a2]
  refine M.set 1 _ _ ?_ ?_
  · rw [e1, e2, e3]; rfl
  · rw [e1, e2, e3]; rfl
theorem PM.stepLo {w wr : World} {f : Int} {H L B n k bl bh : Nat} (M : PM w wr f H L (B - n) (B - k) bl bh) (hk : k < B) (hn : n ≤ k) (hB : B ≤ 128) (h64 : B - 1 - k < 64) (hL : L < 18446744073709551616) :
    PM w ((wr.setCell ⟨bl, 2, none⟩ (.int .u64 (bits .andNot .u64 (cl L (min (B - n) 64) (min (B - k) 64)) (IntKind.u64.wrap (2 ^ (B - 1 - k)))))).setCell ⟨bh, 2, none⟩ (.int .u64 (bits .or .u64 (st L (min (B - n) 64) (min (B - k) 64)) (IntKind.u64.wrap (2 ^ (B - 1 - k)))))) f H L (B - n) (B - (k + 1)) bl bh := by
  obtain ⟨e, he⟩ : ∃ e, B - 1 - k = e := ⟨_, rfl⟩
  have e1 : min (B - k) 64 = e + 1 := by omega
  have e2 : min (B - (k + 1)) 64 = e := by omega
  have e3 : B - (k + 1) - 64 = B - k - 64 := by omega
  have a1 := cl_step L (min (B - n) 64) e (by omega) (by omega) hL
  have a2 := st_step L (min (B - n) 64) e (by omega) (by omega) hL
  rw [he, e1, wrap_pow e (by omega), a1, a2]
  refine M.set 2 _ _ ?_ ?_
  · rw [e1, e2, e3]; rfl
  · rw [e1, e2, e3]; rfl

set_option maxHeartbeats 4000000 in
theorem ref_Prefix (f : Int) (H L n : Nat) (w : World) (hv : valid ⟨f, H, L⟩ = true) (hH : H < 18446744073709551616) (hL : L < 18446744073709551616) (hn : n ≤ bt f) :
    Calls Try.prog 96 #[.agg #[.int .i64 f, .int .u64 H, .int .u64 L], .int .i64 n] w fun e w' =>
      e = .returned (.tuple #[.agg (cA (pL f H L (bt f - n))), .agg (cA (pH f H L (bt f - n))), .int .i64 0]) ∧ Below w.heap.size w w' := by
  have HN := Lib.hid hn
  have hb0 : bt f ≤ 128 := by unfold bt; split <;> omega
  have HV := Lib.hid hv
  clear hv
  go_enter Try.func96, Try.ntmps96
  go_wp2_with fail
  refine (ref_Valid f H L _).mono ?_
  rw [HV.out]
  rintro e w1 ⟨rfl, hw1⟩
  have k0 : w1.heap[w.heap.size]? = some (.cells #[.int .i64 f, .int .u64 H, .int .u64 L] 28 (0, 0)) := by
    rw [hw1.block _ (by simp; omega)]; repeat (first | (with_reducible apply blk_set) | ((with_reducible apply blk_other2); · (first | assumption | (simp; done) | (simp; omega))) | (with_reducible apply blk_drewN) | (with_reducible apply blk_drew) | ((with_reducible apply blk_new); · (first | (with_reducible rfl) | (simp; done))) | (with_reducible apply blk_old) | assumption)
  have k1 : w1.heap[w.heap.size + 1]? = some (.cells #[.int .i64 0, .int .u64 0, .int .u64 0] 28 (0, 0)) := by
    rw [hw1.block _ (by simp)]; repeat (first | (with_reducible apply blk_set) | ((with_reducible apply blk_other2); · (first | assumption | (simp; done) | (simp; omega))) | (with_reducible apply blk_drewN) | (with_reducible apply blk_drew) | ((with_reducible apply blk_new); · (first | (with_reducible rfl) | (simp; done))) | (with_reducible apply blk_old) | assumption)
  have k2 : w1.heap[w.heap.size + 1 + 1]? = some (.cells #[.int .i64 0, .int .u64 0, .int .u64 0] 28 (0, 0)) := by
    rw [hw1.block _ (by simp)]; repeat (first | (with_reducible apply blk_set) | ((with_reducible apply blk_other2); · (first | assumption | (simp; done) | (simp; omega))) | (with_reducible apply blk_drewN) | (with_reducible apply blk_drew) | ((with_reducible apply blk_new); · (first | (with_reducible rfl) | (simp; done))) | (with_reducible apply blk_old) | assumption)
  have hw0 : Below w.heap.size w w1 := ((((Below.refl _ _).alloc (Nat.le_refl _) _).alloc (by simp) _).alloc (by simp; omega) _).trans (hw1.mono (by simp; omega))
  have hs1 : w.heap.size + 3 ≤ w1.heap.size := by have := hw1.size; simp at this; omega
  clear hw1
  have K0 := Lib.hid k0
  have K1 := Lib.hid k1
  have K2 := Lib.hid k2
  have c0 := blk_cell k0
  have f0 := blk_free k0
  have c1 := blk_cell k1
  have f1 := blk_free k1
  have c2 := blk_cell k2
  have f2 := blk_free k2
  clear k0 k1 k2
  have hnn : ¬ (bt f : Int) < n := by have := HN.out; omega
  have lt0 : w.heap.size < w1.heap.size := by have := hs1; omega
  have lt1 : w.heap.size < w1.heap.size + 1 := by have := hs1; omega
  have lt0 : w.heap.size + 1 < w1.heap.size := by have := hs1; omega
  have lt1 : w.heap.size + 1 < w1.heap.size + 1 := by have := hs1; omega
  have lt0 : w.heap.size + 1 + 1 < w1.heap.size := by have := hs1; omega
  have lt1 : w.heap.size + 1 + 1 < w1.heap.size + 1 := by have := hs1; omega
  have np0 : ¬ w1.heap.size = w.heap.size := by have := hs1; omega
  have nq0 : ¬ w.heap.size = w1.heap.size := by have := hs1; omega
  have np1 : ¬ w1.heap.size + 1 = w.heap.size := by have := hs1; omega
  have nq1 : ¬ w.heap.size = w1.heap.size + 1 := by have := hs1; omega
  have np0 : ¬ w1.heap.size = w.heap.size + 1 := by have := hs1; omega
  have nq0 : ¬ w.heap.size + 1 = w1.heap.size := by have := hs1; omega
  have np1 : ¬ w1.heap.size + 1 = w.heap.size + 1 := by have := hs1; omega
  have nq1 : ¬ w.heap.size + 1 = w1.heap.size + 1 := by have := hs1; omega
  have np0 : ¬ w1.heap.size = w.heap.size + 1 + 1 := by have := hs1; omega
  have nq0 : ¬ w.heap.size + 1 + 1 = w1.heap.size := by have := hs1; omega
  have np1 : ¬ w1.heap.size + 1 = w.heap.size + 1 + 1 := by have := hs1; omega
  have nq1 : ¬ w.heap.size + 1 + 1 = w1.heap.size + 1 := by have := hs1; omega
  go_upto_region 5 with (go_at_call 112; refine (ref_bits f _).mono ?_; rintro e w' ⟨rfl, rfl⟩)
  go_cut [7, 8] (fun s7 s8 wx => ∃ bl bh : Nat, s7 = .pointer (some ⟨bl, 0, none⟩) ∧ s8 = .pointer (some ⟨bh, 0, none⟩) ∧ PM w wx f H L (bt f - n) (bt f - n) bl bh)
  case first =>
    go_region
    all_goals go_wp2_with fail
    all_goals go_meet
    · exact ⟨_, _, rfl, rfl, PM.start K0.out K1.out K2.out hw0 hs1 _ _ _ (.inl ⟨rfl, rfl⟩)⟩
    · exact ⟨_, _, rfl, rfl, PM.start K0.out K1.out K2.out hw0 hs1 _ _ _ (.inr ⟨rfl, rfl⟩)⟩
  case rest =>
    obtain ⟨bl, bh, rfl, rfl, M⟩ := hcut
    clear lt0 lt1 np0 nq0 np1 nq1 c0 c1 c2 f0 f1 f2 K0 K1 K2
    go_wp2_with fail
    go_loopw [9] (fun i wr => ∃ k : Nat, n ≤ k ∧ k ≤ bt f ∧ i = .int .i64 k ∧ PM w wr f H L (bt f - n) (bt f - k) bl bh) (fun i _ => bt f - (intOf i).toNat)
    case atStart => exact ⟨n, by omega, hn, rfl, M⟩
    case round =>
      obtain ⟨k, hk1, hk2, rfl, M⟩ := hrel
      clear hnn
      have n1 : ¬ bl = bh := M.ne
      have n2 : ¬ bh = bl := fun e => M.ne e.symm
      have n3 : ¬ bl = w.heap.size := by have := M.ll; omega
      have n4 : ¬ w.heap.size = bl := by have := M.ll; omega
      have n5 : ¬ bh = w.heap.size := by have := M.lh; omega
      have n6 : ¬ w.heap.size = bh := by have := M.lh; omega
      have c0 := blk_cell M.b0
      have dl := blk_cell M.lo
      have fl := blk_free M.lo
      have dh := blk_cell M.hi
      have fh := blk_free M.hi
      have MM := Lib.hid M
      clear M
      by_cases hlt : k < bt f
      · by_cases h64 : (64 : Int) ≤ (bt f : Int) - 1 - k
        · go_wp2_with (go_at_call 112; refine (ref_bits f _).mono ?_; rintro e w' ⟨rfl, rfl⟩)
          exact ⟨⟨k + 1, by omega, by omega, by go_num, MM.out.stepHi hlt hk1 hb0 (by omega) hH⟩, by simp [intOf]; omega⟩
        · go_wp2_with (go_at_call 112; refine (ref_bits f _).mono ?_; rintro e w' ⟨rfl, rfl⟩)
          exact ⟨⟨k + 1, by omega, by omega, by go_num, MM.out.stepLo hlt hk1 hb0 (by omega) hL⟩, by simp [intOf]; omega⟩
      · obtain rfl : k = bt f := by omega
        have c1 := blk_cell MM.out.b1
        have f1 := blk_free MM.out.b1
        have c2 := blk_cell MM.out.b2
        have f2 := blk_free MM.out.b2
        have n13 : ¬ bl = w.heap.size + 1 := by have := MM.out.ll; omega
        have n14 : ¬ w.heap.size + 1 = bl := by have := MM.out.ll; omega
        have n15 : ¬ bh = w.heap.size + 1 := by have := MM.out.lh; omega
        have n16 : ¬ w.heap.size + 1 = bh := by have := MM.out.lh; omega
        have n23 : ¬ bl = w.heap.size + 1 + 1 := by have := MM.out.ll; omega
        have n24 : ¬ w.heap.size + 1 + 1 = bl := by have := MM.out.ll; omega
        have n25 : ¬ bh = w.heap.size + 1 + 1 := by have := MM.out.lh; omega
        have n26 : ¬ w.heap.size + 1 + 1 = bh := by have := MM.out.lh; omega
        have hz := Lib.hid (show bt f - bt f = 0 by omega)
        rw [hz.out] at dl dh
        go_wp2_with (go_at_call 112; refine (ref_bits f _).mono ?_; rintro e w' ⟨rfl, rfl⟩)
        go_region
        all_goals go_wp2_with fail
        all_goals
          have m1 := MM.out.b1
          have m2 := MM.out.b2
          refine ret_cell2_tmp (w.heap.size + 1) (w.heap.size + 1 + 1) pfxSize pfxSize rfl Try.underlying28 rfl Try.underlying28 rfl rfl rfl rfl ?_
          apply Exists.intro
          apply Exists.intro
          apply Exists.intro
          apply Exists.intro
          apply And.intro
          · repeat (first | (with_reducible apply blk_set) | ((with_reducible apply blk_other2); · (first | assumption | (simp; done) | (simp; omega))) | (with_reducible apply blk_drewN) | (with_reducible apply blk_drew) | ((with_reducible apply blk_new); · (first | (with_reducible rfl) | (simp; done))) | (with_reducible apply blk_old) | assumption)
          apply And.intro
          · repeat (first | (with_reducible apply blk_set) | ((with_reducible apply blk_other2); · (first | assumption | (simp; done) | (simp; omega))) | (with_reducible apply blk_drewN) | (with_reducible apply blk_drew) | ((with_reducible apply blk_new); · (first | (with_reducible rfl) | (simp; done))) | (with_reducible apply blk_old) | assumption)
          refine ⟨by simp, by simp, ?_, ?_⟩
          · rfl
          · have hbel := MM.out.bel
            repeat (first | (with_reducible assumption) | (with_reducible exact Below.refl _ _) | (with_reducible apply Below.drew) | (with_reducible apply below_drewN) | ((with_reducible apply Below.setc); · (first | omega | (simp; done) | (simp; omega))) | ((with_reducible apply Below.newb); · (first | omega | (simp; done) | (simp; omega))))

set_option maxHeartbeats 4000000 in
theorem ref_All (f : Int) (w : World) (hv : f = 4 ∨ f = 6) :
    Calls Try.prog 95 #[.int .i64 f] w fun e w' =>
      e = .returned (.tuple #[.agg (cA (pL f 0 0 (bt f))), .agg (cA (pH f 0 0 (bt f)))]) ∧ Below w.heap.size w w' := by
  have HV := Lib.hid hv
  clear hv
  go_enter Try.func95, Try.ntmps95
  go_wp2_with fail
  refine (ref_Prefix f 0 0 0 _ (by rcases HV.out with rfl | rfl <;> rfl) (by decide) (by decide) (Nat.zero_le _)).mono ?_
  rintro e w1 ⟨rfl, hw1⟩
  have k0 : w1.heap[w.heap.size]? = some (.cells #[.int .i64 0, .int .u64 0, .int .u64 0] 28 (0, 0)) := by
    rw [hw1.block _ (by simp; omega)]; repeat (first | (with_reducible apply blk_set) | ((with_reducible apply blk_other2); · (first | assumption | (simp; done) | (simp; omega))) | (with_reducible apply blk_drewN) | (with_reducible apply blk_drew) | ((with_reducible apply blk_new); · (first | (with_reducible rfl) | (simp; done))) | (with_reducible apply blk_old) | assumption)
  have k1 : w1.heap[w.heap.size + 1]? = some (.cells #[.int .i64 0, .int .u64 0, .int .u64 0] 28 (0, 0)) := by
    rw [hw1.block _ (by simp)]; repeat (first | (with_reducible apply blk_set) | ((with_reducible apply blk_other2); · (first | assumption | (simp; done) | (simp; omega))) | (with_reducible apply blk_drewN) | (with_reducible apply blk_drew) | ((with_reducible apply blk_new); · (first | (with_reducible rfl) | (simp; done))) | (with_reducible apply blk_old) | assumption)
  have hw0 : Below w.heap.size w w1 := (((Below.refl _ _).alloc (Nat.le_refl _) _).alloc (by simp) _).trans (hw1.mono (by simp; omega))
  have hs1 : w.heap.size + 2 ≤ w1.heap.size := by have := hw1.size; simp at this; omega
  clear hw1
  simp only [Nat.sub_zero, cA, pL, pH]
  generalize g1 : cl 0 (bt f - 64) 0 = a1
  have G1 := Lib.hid g1
  clear g1
  generalize g2 : cl 0 (min (bt f) 64) 0 = a2
  have G2 := Lib.hid g2
  clear g2
  generalize g3 : st 0 (bt f - 64) 0 = a3
  have G3 := Lib.hid g3
  clear g3
  generalize g4 : st 0 (min (bt f) 64) 0 = a4
  have G4 := Lib.hid g4
  clear g4
  have c0 := blk_cell k0
  have f0 := blk_free k0
  have c1 := blk_cell k1
  have f1 := blk_free k1
  have lt0 : w.heap.size < w1.heap.size := by have := hs1; omega
  have lt1 : w.heap.size < w1.heap.size + 1 := by have := hs1; omega
  have lt0 : w.heap.size + 1 < w1.heap.size := by have := hs1; omega
  have lt1 : w.heap.size + 1 < w1.heap.size + 1 := by have := hs1; omega
  have np0 : ¬ w1.heap.size = w.heap.size := by have := hs1; omega
  have nq0 : ¬ w.heap.size = w1.heap.size := by have := hs1; omega
  have np1 : ¬ w1.heap.size + 1 = w.heap.size := by have := hs1; omega
  have nq1 : ¬ w.heap.size = w1.heap.size + 1 := by have := hs1; omega
  have np0 : ¬ w1.heap.size = w.heap.size + 1 := by have := hs1; omega
  have nq0 : ¬ w.heap.size + 1 = w1.heap.size := by have := hs1; omega
  have np1 : ¬ w1.heap.size + 1 = w.heap.size + 1 := by have := hs1; omega
  have nq1 : ¬ w.heap.size + 1 = w1.heap.size + 1 := by have := hs1; omega
  have m1 := Lib.hid k0
  have m2 := Lib.hid k1
  clear k0 k1
  go_wp2_with fail
  go_region
  all_goals go_wp2_with fail
  all_goals
    have q1 := m1.out
    have q2 := m2.out
    refine ret_cell2_ex w.heap.size (w.heap.size + 1) pfxSize pfxSize rfl Try.underlying28 rfl Try.underlying28 rfl rfl rfl rfl ?_
    apply Exists.intro
    apply Exists.intro
    apply Exists.intro
    apply Exists.intro
    apply And.intro
    · repeat (first | (with_reducible apply blk_set) | ((with_reducible apply blk_other2); · (first | assumption | (simp; done) | (simp; omega))) | (with_reducible apply blk_drewN) | (with_reducible apply blk_drew) | ((with_reducible apply blk_new); · (first | (with_reducible rfl) | (simp; done))) | (with_reducible apply blk_old) | assumption)
    apply And.intro
    · repeat (first | (with_reducible apply blk_set) | ((with_reducible apply blk_other2); · (first | assumption | (simp; done) | (simp; omega))) | (with_reducible apply blk_drewN) | (with_reducible apply blk_drew) | ((with_reducible apply blk_new); · (first | (with_reducible rfl) | (simp; done))) | (with_reducible apply blk_old) | assumption)
    refine ⟨by simp, by simp, ?_, ?_⟩
    · simp only [cA, pL, pH, G1.out, G2.out, G3.out, G4.out]; rfl
    · repeat (first | (with_reducible assumption) | (with_reducible exact Below.refl _ _) | (with_reducible apply Below.drew) | (with_reducible apply below_drewN) | ((with_reducible apply Below.setc); · (first | omega | (simp; done) | (simp; omega))) | ((with_reducible apply Below.newb); · (first | omega | (simp; done) | (simp; omega))))
end Go.Proofs.Ytiinlanpinanhaa
