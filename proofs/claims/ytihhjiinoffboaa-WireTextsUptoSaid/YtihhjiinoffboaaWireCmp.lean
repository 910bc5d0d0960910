import Derived.Test.YtihhjiinoffboaaProg
import Derived.Test.YtihhjiinoffboaaLib
import Derived.LoopTactic
set_option linter.unusedVariables false
namespace Go.Proofs.Ytihhjiinoffboaa
open Go.RowKit

theorem run_compare_Bs {P : Program} {w : World} {a : Option Addr} {len cap : Nat} {l : List UInt8} {a' : Option Addr} {len' cap' : Nat} {l' : List UInt8} (h : Bs w a len cap l) (h' : Bs w a' len' cap' l') :
    (Extern.BytealgCompare.compare #[.slice a len cap, .slice a' len' cap']).run P w = .ok (.int .i64 (Lib.compareBytes l l')) w := by
  change Sem.run P (do pure (goInt (Extern.BytealgCompare.cmp (← Extern.Bytes.bytesOf (.slice a len cap)) (← Extern.Bytes.bytesOf (.slice a' len' cap'))))) w = _
  simp only [Sem.run_bind, Sem.run_pure, run_bytesOf_Bs h, run_bytesOf_Bs h', Result.andThen]
  rw [Lib.cmp_eq]
  rfl

set_option maxHeartbeats 400000 in
theorem bytes_Compare (a : Option Addr) (len cap : Nat) (l : List UInt8) (a' : Option Addr) (len' cap' : Nat) (l' : List UInt8) (w : World) (h : Bs w a len cap l) (h' : Bs w a' len' cap' l') :
    Calls Try.prog 20 #[.slice a len cap, .slice a' len' cap'] w fun e w' => e = .returned (.int .i64 (Lib.compareBytes l l')) ∧ w = w' := by
  go_enter Try.func20, Try.ntmps20
  go_wp2
  rw [run_callFunc_extern (fn := Try.f24) (by kernel_rfl) (by kernel_rfl) (by kernel_rfl) (by kernel_rfl) (e := Extern.BytealgCompare.compare) (by kernel_rfl), run_compare_Bs h h']
  simp only [Result.andThen]
  rw [Oper.upon_value]
  go_wp2
  go_ret
  exact ⟨rfl, rfl⟩

set_option maxHeartbeats 400000 in
theorem bytes_Equal (a : Option Addr) (len cap : Nat) (l : List UInt8) (a' : Option Addr) (len' cap' : Nat) (l' : List UInt8) (w : World) (h : Bs w a len cap l) (h' : Bs w a' len' cap' l') :
    Calls Try.prog 21 #[.slice a len cap, .slice a' len' cap'] w fun e w' => e = .returned (.bool (l == l')) ∧ w = w' := by
  have c1 := run_convert_Bs (P := Try.prog) h 22 5 9 Try.underlying22 Try.underlying5 Try.underlying9
  have c2 := run_convert_Bs (P := Try.prog) h' 22 5 9 Try.underlying22 Try.underlying5 Try.underlying9
  go_enter Try.func21, Try.ntmps21
  go_wp2
  go_ret
  exact ⟨rfl, rfl⟩

set_option maxHeartbeats 400000 in
theorem wire_Compare (a : Option Addr) (len cap : Nat) (l : List UInt8) (a' : Option Addr) (len' cap' : Nat) (l' : List UInt8) (w : World) (h : Bs w a len cap l) (h' : Bs w a' len' cap' l') :
    Calls Try.prog 8 #[.slice a len cap, .slice a' len' cap'] w fun e w' => e = .returned (.int .i64 (Lib.compareBytes l l')) ∧ w = w' := by
  go_enter Try.func8, Try.ntmps8
  go_wp2_with (go_at_call 20; refine (bytes_Compare _ _ _ _ _ _ _ _ _ h h').mono ?_; rintro e w' ⟨rfl, rfl⟩)
  go_ret
  exact ⟨rfl, rfl⟩
set_option maxHeartbeats 400000 in
theorem wire_Equal (a : Option Addr) (len cap : Nat) (l : List UInt8) (a' : Option Addr) (len' cap' : Nat) (l' : List UInt8) (w : World) (h : Bs w a len cap l) (h' : Bs w a' len' cap' l') :
    Calls Try.prog 11 #[.slice a len cap, .slice a' len' cap'] w fun e w' => e = .returned (.bool (l == l')) ∧ w = w' := by
  go_enter Try.func11, Try.ntmps11
  go_wp2_with (go_at_call 21; refine (bytes_Equal _ _ _ _ _ _ _ _ _ h h').mono ?_; rintro e w' ⟨rfl, rfl⟩)
  go_ret
  exact ⟨rfl, rfl⟩

set_option maxHeartbeats 400000 in
theorem ref_Compare (a : Option Addr) (len cap : Nat) (l : List UInt8) (a' : Option Addr) (len' cap' : Nat) (l' : List UInt8) (w : World) (h : Bs w a len cap l) (h' : Bs w a' len' cap' l') :
    Calls Try.prog 13 #[.slice a len cap, .slice a' len' cap'] w fun e w' => e = .returned (.int .i64 (Lib.compareBytes l l')) ∧ Quiet w w' := by
  have b1 := h.le
  have b2 := h.cap_le
  have b1' := h'.le
  have b2' := h'.cap_le
  go_enter Try.func13, Try.ntmps13
  go_wp2
  go_loopw [5] (fun i wr => ∃ k : Nat, k ≤ len ∧ k ≤ len' ∧ i = .int .i64 k ∧ l.take k = l'.take k ∧ Quiet w wr) (fun i _ => len - (intOf i).toNat)
  case atStart => exact ⟨0, by omega, by omega, rfl, by simp, Quiet.refl _⟩
  case round =>
    obtain ⟨k, hk, hk', rfl, he, q⟩ := hrel
    have e1 := h.len_eq
    have e2 := h'.len_eq
    subst e1
    subst e2
    have hend := cmp_end l l' k he hk hk'
    have HE := Lib.hid hend
    clear hend
    have HT := Lib.hid he
    clear he
    by_cases h1 : k < l.length
    · by_cases h2 : k < l'.length
      · obtain ⟨b, off, rfl, hc⟩ := h.cells (by omega)
        obtain ⟨b', off', rfl, hc'⟩ := h'.cells (by omega)
        have c := hc k h1
        have c' := hc' k h2
        clear hc hc'
        have HC := Lib.hid (cmp_here l l' k HT.out h1 h2)
        obtain ⟨n, rfl⟩ := q
        go_wp2_with fail
        go_quiet (fail)
        go_wp2_with fail
        · go_ret
          exact ⟨ret_int (by rw [HC.out, if_pos (by assumption)]), n + nq, by simp⟩
        · go_quiet (fail)
          go_wp2_with fail
          · go_ret
            exact ⟨ret_int (by rw [HC.out, if_neg (by assumption), if_pos (by assumption)]), by repeat (first | exact Quiet.refl _ | apply Quiet.d)⟩
          · go_roundw
            case rel => exact ⟨k + 1, by omega, by omega, by go_num, take_next l l' k HT.out h1 h2 (by assumption) (by assumption), by repeat (first | exact Quiet.refl _ | apply Quiet.d)⟩
            case measure => simp [intOf]; omega
      · go_wp2_with fail
        all_goals
          go_ret
          exact ⟨ret_int (by rw [HE.out (by omega)]; first | rw [if_pos (by omega)] | rw [if_neg (by omega), if_pos (by omega)] | rw [if_neg (by omega), if_neg (by omega)]), q⟩
    · go_wp2_with fail
      all_goals
        go_ret
        exact ⟨ret_int (by rw [HE.out (by omega)]; first | rw [if_pos (by omega)] | rw [if_neg (by omega), if_pos (by omega)] | rw [if_neg (by omega), if_neg (by omega)]), q⟩

set_option maxHeartbeats 400000 in
theorem ref_Equal (a : Option Addr) (len cap : Nat) (l : List UInt8) (a' : Option Addr) (len' cap' : Nat) (l' : List UInt8) (w : World) (h : Bs w a len cap l) (h' : Bs w a' len' cap' l') :
    Calls Try.prog 12 #[.slice a len cap, .slice a' len' cap'] w fun e w' => e = .returned (.bool (l == l')) ∧ Quiet w w' := by
  have HE := Lib.hid (cmp_eq_zero l l')
  go_enter Try.func12, Try.ntmps12
  go_wp2_with (go_at_call 13; refine (ref_Compare _ _ _ _ _ _ _ _ _ h h').mono ?_; rintro e w' ⟨rfl, q⟩)
  go_ret
  exact ⟨congrArg (fun b => Ending.returned (.bool b)) HE.out, q⟩
end Go.Proofs.Ytihhjiinoffboaa
