import Derived.Test.YtihhjiinoffboaaWireCmp
import Derived.Test.YtihhjiinoffboaaWireNum
set_option linter.unusedVariables false
namespace Go.Proofs.Ytihhjiinoffboaa
open Go.RowKit

theorem chk01 : chk [0, 1] = 65534 := by simp [chk, sm, fold16]
set_option maxHeartbeats 400000 in
theorem awake01 (w : World) : Calls Try.prog 7 #[] w fun e w' => e = .returned (.bool true) ∧ Below w.heap.size w w' := by
  have n1 : ∀ (w : World) (k : Nat), k = w.heap.size → Calls Try.prog 15 #[.slice (some ⟨k, 0, none⟩) 2 2, .int .i64 0, .int .i64 2] (w.alloc (.cells #[.int .u8 1, .int .u8 2] 5)) fun e w' => e = .returned (.tuple #[.int .u64 258, .bool true]) ∧ w.alloc (.cells #[.int .u8 1, .int .u8 2] 5) = w' :=
    fun w k hk => wire_Number_ok _ 2 2 [1, 2] 0 2 _ (Bs.lit w [1, 2] _ _ 2 k hk (by rfl) rfl (by decide)) (by omega) (by omega) (by omega) (by omega)
  have n2 : ∀ (w : World) (k : Nat), k = w.heap.size → Calls Try.prog 9 #[.slice (some ⟨k, 0, none⟩) 2 2] (w.alloc (.cells #[.int .u8 0, .int .u8 1] 5)) fun e w' => e = .returned (.int .i64 65534) ∧ w.alloc (.cells #[.int .u8 0, .int .u8 1] 5) = w' :=
    fun w k hk => chk01 ▸ wire_Checksum _ 2 2 [0, 1] _ (Bs.lit w [0, 1] _ _ 2 k hk (by rfl) rfl (by decide))
  have n3 : ∀ (w : World) (k k' : Nat), k = w.heap.size → k' = w.heap.size + 1 → Calls Try.prog 8 #[.slice (some ⟨k, 0, none⟩) 1 1, .slice (some ⟨k', 0, none⟩) 2 2] ((w.alloc (.cells #[.int .u8 1] 5)).alloc (.cells #[.int .u8 1, .int .u8 0] 5)) fun e w' => e = .returned (.int .i64 (-1)) ∧ (w.alloc (.cells #[.int .u8 1] 5)).alloc (.cells #[.int .u8 1, .int .u8 0] 5) = w' :=
    fun w k k' hk hk' => wire_Compare _ 1 1 [1] _ 2 2 [1, 0] _ ((Bs.lit w [1] _ _ 1 k hk (by rfl) rfl (by decide)).mono ((Below.refl _ _).alloc (Nat.le_refl _) _)) (Bs.lit (w.alloc (.cells #[.int .u8 1] 5)) [1, 0] _ _ 2 k' (by simp [hk']) (by rfl) rfl (by decide))
  go_enter Try.func7, Try.ntmps7
  go_wp2_with fail
  refine (n1 _ _ rfl).mono ?_
  rintro e w' ⟨rfl, rfl⟩
  go_wp2_with fail
  refine (n2 _ _ (by simp)).mono ?_
  rintro e w' ⟨rfl, rfl⟩
  go_wp2_with fail
  refine (n3 _ _ _ (by simp) (by simp)).mono ?_
  rintro e w' ⟨rfl, rfl⟩
  go_wp2_with fail
  go_ret
  exact ⟨rfl, by repeat (first | exact Below.refl _ _ | assumption | refine Below.alloc ?_ (by first | (simp; done) | (simp; omega)) _ | refine Below.drew ?_ | refine below_drewN ?_ _)⟩

set_option maxHeartbeats 400000 in
theorem law_WireCompares (a : Option Addr) (len cap : Nat) (l : List UInt8) (a' : Option Addr) (len' cap' : Nat) (l' : List UInt8) (same : Bool) (w : World) (h : Bs w a len cap l) (h' : Bs w a' len' cap' l') :
    Calls Try.prog 4 #[.slice a len cap, .slice a' len' cap', .bool same] w fun e w' => e = .returned (.bool true) ∧ Below w.heap.size w w' := by
  have N1 := Lib.hid (cmp_neg l l')
  have N2 := Lib.hid (cmp_self l)
  have r1 := cmp_range l l'
  cases same
  · go_enter Try.func4, Try.ntmps4
    go_wp2_with fail
    refine (awake01 _).mono ?_
    rintro e w1 ⟨rfl, hb⟩
    have g := h.mono hb
    have g' := h'.mono hb
    go_wp2_with fail
    refine (wire_Checksum _ _ _ _ _ g).mono ?_
    rintro e w' ⟨rfl, rfl⟩
    go_wp2_with fail
    refine (ref_Checksum _ _ _ _ _ g).mono ?_
    rintro e w' ⟨rfl, rfl⟩
    go_wp2_with fail
    refine (wire_Equal _ _ _ _ _ _ _ _ _ g g').mono ?_
    rintro e w' ⟨rfl, rfl⟩
    go_wp2_with fail
    refine (ref_Equal _ _ _ _ _ _ _ _ _ g g').mono ?_
    rintro e w2 ⟨rfl, q2⟩
    have g2 := g.quiet q2
    have g2' := g'.quiet q2
    go_wp2_with fail
    refine (wire_Compare _ _ _ _ _ _ _ _ _ (g2) (g2')).mono ?_
    rintro e w' ⟨rfl, rfl⟩
    go_wp2_with fail
    refine (ref_Compare _ _ _ _ _ _ _ _ _ (g2) (g2')).mono ?_
    rintro e w3 ⟨rfl, q3⟩
    have g3 := g2.quiet q3
    have g3' := g2'.quiet q3
    go_wp2_with fail
    refine (wire_Compare _ _ _ _ _ _ _ _ _ (g3') (g3)).mono ?_
    rintro e w' ⟨rfl, rfl⟩
    go_wp2_with fail
    refine (wire_Compare _ _ _ _ _ _ _ _ _ (g3) (g3')).mono ?_
    rintro e w' ⟨rfl, rfl⟩
    go_wp2_with fail
    go_ret
    exact ⟨by rw [N1.out]; simp, (hb.trans (q2.below _)).trans (q3.below _)⟩
  · go_enter Try.func4, Try.ntmps4
    go_wp2_with fail
    refine (awake01 _).mono ?_
    rintro e w1 ⟨rfl, hb⟩
    have g := h.mono hb
    go_wp2_with fail
    refine (wire_Checksum _ _ _ _ _ g).mono ?_
    rintro e w' ⟨rfl, rfl⟩
    go_wp2_with fail
    refine (ref_Checksum _ _ _ _ _ g).mono ?_
    rintro e w' ⟨rfl, rfl⟩
    go_wp2_with fail
    refine (wire_Equal _ _ _ _ _ _ _ _ _ g g).mono ?_
    rintro e w' ⟨rfl, rfl⟩
    go_wp2_with fail
    refine (ref_Equal _ _ _ _ _ _ _ _ _ g g).mono ?_
    rintro e w2 ⟨rfl, q2⟩
    have g2 := g.quiet q2
    go_wp2_with fail
    refine (wire_Compare _ _ _ _ _ _ _ _ _ (g2) (g2)).mono ?_
    rintro e w' ⟨rfl, rfl⟩
    go_wp2_with fail
    refine (ref_Compare _ _ _ _ _ _ _ _ _ (g2) (g2)).mono ?_
    rintro e w3 ⟨rfl, q3⟩
    have g3 := g2.quiet q3
    rw [N2.out]
    go_wp2_with fail
    refine (wire_Compare _ _ _ _ _ _ _ _ _ (g3) (g3)).mono ?_
    rintro e w' ⟨rfl, rfl⟩
    rw [N2.out]
    go_wp2_with fail
    refine (wire_Compare _ _ _ _ _ _ _ _ _ (g3) (g3)).mono ?_
    rintro e w' ⟨rfl, rfl⟩
    rw [N2.out]
    go_wp2_with fail
    go_ret
    exact ⟨rfl, (hb.trans (q2.below _)).trans (q3.below _)⟩
end Go.Proofs.Ytihhjiinoffboaa
