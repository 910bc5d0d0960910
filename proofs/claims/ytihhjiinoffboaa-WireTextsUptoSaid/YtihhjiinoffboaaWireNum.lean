import Derived.Test.YtihhjiinoffboaaProg
import Derived.Test.YtihhjiinoffboaaLib
import Derived.LoopTactic
set_option linter.unusedVariables false
namespace Go.Proofs.Ytihhjiinoffboaa
open Go.RowKit

set_option maxHeartbeats 400000 in
theorem wire_Slice_no (a : Option Addr) (len cap : Nat) (at_ n : Int) (w : World) 
    (h0 : at_ < 0 ∨ n < 0 ∨ (len : Int) < at_ ∨ (len : Int) - at_ < n) (i1 : -9223372036854775808 ≤ at_) (i2 : at_ ≤ 9223372036854775807) (hl : len ≤ 140737488355328) :
    Calls Try.prog 14 #[.slice a len cap, .int .i64 at_, .int .i64 n] w fun e w' => e = .returned (.tuple #[.slice none 0 0, .bool false]) ∧ w = w' := by
  by_cases c1 : at_ < 0
  · go_enter Try.func14, Try.ntmps14
    go_wp2
    go_ret2
    exact ⟨rfl, rfl⟩
  · by_cases c2 : n < 0
    · go_enter Try.func14, Try.ntmps14
      go_wp2
      go_ret2
      exact ⟨rfl, rfl⟩
    · by_cases c3 : (len : Int) < at_
      · go_enter Try.func14, Try.ntmps14
        go_wp2
        go_ret2
        exact ⟨rfl, rfl⟩
      · have c4 : (len : Int) - at_ < n := by omega
        clear h0
        go_enter Try.func14, Try.ntmps14
        go_wp2
        go_ret2
        exact ⟨rfl, rfl⟩

set_option maxHeartbeats 400000 in
theorem wire_Slice_yes (a : Option Addr) (len cap : Nat) (l : List UInt8) (at_ n : Nat) (w : World)
    (h : Bs w a len cap l) (h0 : at_ + n ≤ len) :
    Calls Try.prog 14 #[.slice a len cap, .int .i64 at_, .int .i64 n] w fun e w' => (∃ a', e = .returned (.tuple #[.slice a' n n, .bool true]) ∧ Bs w' a' n n ((l.drop at_).take n)) ∧ w = w' := by
  have hl := h.le
  have hc := h.len_le
  have hq := h.len_eq
  by_cases hn : n = 0
  · subst hn
    have hz := fun a => Bs.zero w a 0 (by omega)
    simp only [List.take_zero]
    cases a with
    | none =>
      have hlen : len = 0 := by
        rcases Nat.eq_zero_or_pos len with e | e
        · exact e
        · obtain ⟨_, _, e, _⟩ := h.cells e; cases e
      subst hlen
      obtain rfl : at_ = 0 := by omega
      clear hq
      go_enter Try.func14, Try.ntmps14
      go_wp2
      all_goals
        go_ret2
        exact ⟨⟨_, rfl, hz _⟩, rfl⟩
    | some a =>
      obtain ⟨b, off, s⟩ := a
      clear hq
      go_enter Try.func14, Try.ntmps14
      go_wp2
      all_goals
        go_ret2
        exact ⟨⟨_, rfl, hz _⟩, rfl⟩
  · obtain ⟨b, off, rfl, _⟩ := h.cells (by omega)
    have hp := h.part at_ n n h0 (by omega) (by omega)
    clear hq
    go_enter Try.func14, Try.ntmps14
    go_wp2
    go_ret2
    exact ⟨⟨_, by simp, hp⟩, rfl⟩

set_option maxHeartbeats 400000 in
theorem wire_Number_width (a : Option Addr) (len cap : Nat) (at_ n : Int) (w : World) (h0 : n < 1 ∨ 8 < n) :
    Calls Try.prog 15 #[.slice a len cap, .int .i64 at_, .int .i64 n] w fun e w' => e = .returned (.tuple #[.int .u64 0, .bool false]) ∧ w = w' := by
  by_cases c1 : n < 1
  · go_enter Try.func15, Try.ntmps15
    go_wp2
    go_ret2
    exact ⟨rfl, rfl⟩
  · have c2 : 8 < n := by omega
    clear h0
    go_enter Try.func15, Try.ntmps15
    go_wp2
    go_ret2
    exact ⟨rfl, rfl⟩

set_option maxHeartbeats 400000 in
theorem wire_Number_no (a : Option Addr) (len cap : Nat) (at_ n : Int) (w : World) (h1 : 1 ≤ n) (h2 : n ≤ 8)
    (h0 : at_ < 0 ∨ (len : Int) < at_ ∨ (len : Int) - at_ < n) (i1 : -9223372036854775808 ≤ at_) (i2 : at_ ≤ 9223372036854775807) (hl : len ≤ 140737488355328) :
    Calls Try.prog 15 #[.slice a len cap, .int .i64 at_, .int .i64 n] w fun e w' => e = .returned (.tuple #[.int .u64 0, .bool false]) ∧ w = w' := by
  have C := Lib.hid (wire_Slice_no a len cap at_ n w (by omega) i1 i2 hl)
  clear h0 i1 i2
  go_enter Try.func15, Try.ntmps15
  go_wp2_with (go_at_call 14; refine C.out.mono ?_; rintro e w' ⟨rfl, rfl⟩)
  go_ret2
  exact ⟨rfl, rfl⟩

set_option maxHeartbeats 400000 in
theorem wire_Number_yes (a : Option Addr) (len cap : Nat) (l : List UInt8) (at_ n : Nat) (w : World) (h : Bs w a len cap l) (h1 : 1 ≤ n) (h2 : n ≤ 8) (h0 : at_ + n ≤ len) :
    Calls Try.prog 15 #[.slice a len cap, .int .i64 at_, .int .i64 n] w fun e w' => e = .returned (.tuple #[.int .u64 (num ((l.drop at_).take n)), .bool true]) ∧ w = w' := by
  have C := Lib.hid (wire_Slice_yes a len cap l at_ n w h h0)
  generalize (l.drop at_).take n = m at C ⊢
  clear h h0
  go_enter Try.func15, Try.ntmps15
  go_wp2_with (go_at_call 14; refine C.out.mono ?_; rintro e w' ⟨⟨a', rfl, hm⟩, rfl⟩)
  go_loop [10, 30] (fun v i => ∃ k : Nat, k ≤ n ∧ i = .int .i64 k ∧ v = .int .u64 (num (m.take k))) (fun _ i => n - (intOf i).toNat)
  case atStart => exact ⟨0, by omega, rfl, rfl⟩
  case round =>
    obtain ⟨k, hk, rfl, rfl⟩ := hrel
    have hlen := Lib.hid hm.len_eq
    by_cases hlt : k < n
    · obtain ⟨b, off, rfl, hc⟩ := hm.cells (by omega)
      have hkm : k < m.length := by rw [hlen.out]; exact hlt
      have c := hc k hkm
      have hs := Lib.hid (num_snoc (m.take k) m[k])
      have hv := Lib.hid (or_step (num (m.take k)) m[k].toNat (num_take_lt m k n hlt h2 _) m[k].toNat_lt)
      have ht := Lib.hid (take_snoc m k hkm)
      go_wp2
      go_round
      case rel => exact ⟨k + 1, by omega, by go_num, by rw [hv.out, ht.out, hs.out]⟩
      case measure => simp [intOf]; omega
    · obtain rfl : k = n := by omega
      go_wp2
      go_ret2
      exact ⟨by simp [List.take_of_length_le (Nat.le_of_eq hlen.out)], rfl⟩

theorem fold16_le (f s : Nat) (h : s ≤ 65535) : fold16 f s = s := by
  cases f with
  | zero => rfl
  | succ f => rw [fold16, if_neg (by omega)]
theorem fold16_more (f s : Nat) (h : s ≤ f) : fold16 f s = fold16 s s := by
  have : ∀ (n f s : Nat), s ≤ n → s ≤ f → fold16 f s = fold16 s s := by
    intro n
    induction n with
    | zero => intro f s h1 h2; rw [fold16_le _ _ (by omega), fold16_le _ _ (by omega)]
    | succ n ih =>
      intro f s h1 h2
      by_cases hs : 65535 < s
      · obtain ⟨f, rfl⟩ : ∃ g, f = g + 1 := ⟨f - 1, by omega⟩
        obtain ⟨s', rfl⟩ : ∃ g, s = g + 1 := ⟨s - 1, by omega⟩
        rw [fold16, fold16, if_pos hs, ih _ _ (by omega) (by omega), ih s' _ (by omega) (by omega)]
        rw [if_pos hs]
      · rw [fold16_le _ _ (by omega), fold16_le _ _ (by omega)]
  exact this s f s (Nat.le_refl _) h
theorem fold16_step (s : Nat) (h : 65535 < s) : fold16 s s = fold16 (s % 65536 + s / 65536) (s % 65536 + s / 65536) := by
  obtain ⟨s', rfl⟩ : ∃ g, s = g + 1 := ⟨s - 1, by omega⟩
  rw [fold16, if_pos h, fold16_more _ _ (by omega)]

/-- The checksum. -/
def chk (l : List UInt8) : Int := 65535 - (fold16 (sm l) (sm l) : Nat)

set_option maxHeartbeats 400000 in
theorem wire_Checksum (a : Option Addr) (len cap : Nat) (l : List UInt8) (w : World) (h : Bs w a len cap l) :
    Calls Try.prog 9 #[.slice a len cap] w fun e w' => e = .returned (.int .i64 (chk l)) ∧ w = w' := by
  have hl := h.le
  have hc := h.len_le
  go_enter Try.func9, Try.ntmps9
  go_wp2
  go_loop [3, 8] (fun v i => ∃ k : Nat, k ≤ len ∧ i = .int .i64 k ∧ v = .int .i64 (sm (l.take k) : Nat)) (fun _ i => len - (intOf i).toNat)
  case atStart => exact ⟨0, by omega, rfl, rfl⟩
  case round =>
    obtain ⟨k, hk, rfl, rfl⟩ := hrel
    have hlen := Lib.hid h.len_eq
    by_cases hlt : k < len
    · obtain ⟨b, off, rfl, hcc⟩ := h.cells (by omega)
      have hkm : k < l.length := by rw [hlen.out]; exact hlt
      have c := hcc k hkm
      clear hcc
      have hs := Lib.hid (sm_snoc (l.take k) l[k])
      have hb := sm_le (l.take k)
      have hx := l[k].toNat_lt
      have ht := Lib.hid (take_snoc l k hkm)
      have htl : (l.take k).length = k := by simp; omega
      have HT := Lib.hid htl
      rw [htl] at hb
      clear htl
      go_wp2
      all_goals go_round
      case rel => exact ⟨k + 1, by omega, by go_num, by rw [ht.out, hs.out, HT.out, if_pos (by simp_all; omega)]; go_num⟩
      case measure => simp [intOf]; omega
      case rel => exact ⟨k + 1, by omega, by go_num, by rw [ht.out, hs.out, HT.out, if_neg (by simp_all; omega)]; go_num⟩
      case measure => simp [intOf]; omega
    · obtain rfl : k = len := by omega
      have hb := sm_le l
      rw [hlen.out] at hb
      have hlk : l.take k = l := List.take_of_length_le (Nat.le_of_eq hlen.out)
      rw [hlk]
      go_wp2
      go_loop [3] (fun v => ∃ s : Nat, s ≤ k * 65280 ∧ v = .int .i64 s ∧ fold16 s s = fold16 (sm l) (sm l)) (fun v => (intOf v).toNat)
      case atStart => exact ⟨sm l, hb, rfl, rfl⟩
      case round =>
        obtain ⟨s, hs, rfl, he⟩ := hrel
        have HE := Lib.hid he
        clear he
        by_cases h6 : 65535 < s
        · go_wp2
          have e := fold_step_val s (by clear HE h; omega)
          rw [e]
          go_round
          case rel => exact ⟨_, by omega, rfl, by rw [← fold16_step s h6]; exact HE.out⟩
          case measure => simp [intOf]; omega
        · go_wp2
          go_ret
          exact ⟨by simp only [chk, ← HE.out, fold16_le s s (by omega : s ≤ 65535)]; rfl, rfl⟩

set_option maxHeartbeats 400000 in
theorem ref_Checksum (a : Option Addr) (len cap : Nat) (l : List UInt8) (w : World) (h : Bs w a len cap l) :
    Calls Try.prog 10 #[.slice a len cap] w fun e w' => e = .returned (.int .i64 (chk l)) ∧ w = w' := by
  have hl := h.le
  have hc := h.len_le
  go_enter Try.func10, Try.ntmps10
  go_wp2
  go_loop [3, 4] (fun v i => ∃ k : Nat, k ≤ len ∧ i = .int .i64 k ∧ v = .int .i64 (sm (l.take k) : Nat)) (fun _ i => len - (intOf i).toNat)
  case atStart => exact ⟨0, by omega, rfl, rfl⟩
  case round =>
    obtain ⟨k, hk, rfl, rfl⟩ := hrel
    have hlen := Lib.hid h.len_eq
    by_cases hlt : k < len
    · obtain ⟨b, off, rfl, hcc⟩ := h.cells (by omega)
      have hkm : k < l.length := by rw [hlen.out]; exact hlt
      have c := hcc k hkm
      clear hcc
      have hs := Lib.hid (sm_snoc (l.take k) l[k])
      have hb := sm_le (l.take k)
      have hx := l[k].toNat_lt
      have ht := Lib.hid (take_snoc l k hkm)
      have htl : (l.take k).length = k := by simp; omega
      have HT := Lib.hid htl
      rw [htl] at hb
      clear htl
      go_wp2
      all_goals go_round
      case rel => exact ⟨k + 1, by omega, by go_num, by rw [ht.out, hs.out, HT.out, if_pos (by simp_all; omega)]; go_num⟩
      case measure => simp [intOf]; omega
      case rel => exact ⟨k + 1, by omega, by go_num, by rw [ht.out, hs.out, HT.out, if_neg (by simp_all; omega)]; go_num⟩
      case measure => simp [intOf]; omega
    · obtain rfl : k = len := by omega
      have hb := sm_le l
      rw [hlen.out] at hb
      have hlk : l.take k = l := List.take_of_length_le (Nat.le_of_eq hlen.out)
      rw [hlk]
      go_wp2
      go_loop [3] (fun v => ∃ s : Nat, s ≤ k * 65280 ∧ v = .int .i64 s ∧ fold16 s s = fold16 (sm l) (sm l)) (fun v => (intOf v).toNat)
      case atStart => exact ⟨sm l, hb, rfl, rfl⟩
      case round =>
        obtain ⟨s, hs, rfl, he⟩ := hrel
        have HE := Lib.hid he
        clear he
        by_cases h6 : 65535 < s
        · go_wp2
          have e := fold_step_val s (by clear HE h; omega)
          rw [e]
          go_round
          case rel => exact ⟨_, by omega, rfl, by rw [← fold16_step s h6]; exact HE.out⟩
          case measure => simp [intOf]; omega
        · go_wp2
          go_ret
          exact ⟨by simp only [chk, ← HE.out, fold16_le s s (by omega : s ≤ 65535)]; rfl, rfl⟩

theorem wire_Slice_ok {a : Option Addr} {len cap : Nat} {l : List UInt8} {at_ n : Int} {w : World}
    (h : Bs w a len cap l) (A K : Nat) (hA : at_ = A) (hK : n = K) (h0 : A + K ≤ len) :
    Calls Try.prog 14 #[.slice a len cap, .int .i64 at_, .int .i64 n] w fun e w' => (∃ a', e = .returned (.tuple #[.slice a' K K, .bool true]) ∧ Bs w' a' K K ((l.drop A).take K)) ∧ w = w' := by
  subst hA hK
  exact wire_Slice_yes a len cap l A K w h h0
theorem wire_Number_ok {a : Option Addr} {len cap : Nat} {l : List UInt8} {at_ n : Int} {w : World} (h : Bs w a len cap l) (A K : Nat) (hA : at_ = A) (hK : n = K) (h1 : 1 ≤ K) (h2 : K ≤ 8) (h0 : A + K ≤ len) :
    Calls Try.prog 15 #[.slice a len cap, .int .i64 at_, .int .i64 n] w fun e w' => e = .returned (.tuple #[.int .u64 (num ((l.drop A).take K)), .bool true]) ∧ w = w' := by
  subst hA hK
  exact wire_Number_yes a len cap l A K w h h1 h2 h0
end Go.Proofs.Ytihhjiinoffboaa
