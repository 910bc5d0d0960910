import Derived.Test.YtihhjiinoffboaaWireCmp
import Derived.Test.YtihhjiinoffboaaWireNum
import Derived.Test.YtihhjiinoffboaaBase
import Derived.Test.YtihhjiinoffboaaWireUnhex
set_option linter.unusedVariables false
namespace Go.Proofs.Ytihhjiinoffboaa
open Go.RowKit

theorem chk01 : chk [0, 1] = 65534 := by simp [chk, sm, fold16]
set_option maxHeartbeats 400000 in
theorem awake01 (w : World) : Calls Try.prog 7 #[] w fun e w' => e = .returned (.bool true) ∧ Below w.heap.size w w' := by
  have n1 : ∀ (w : World) (k : Nat), k = w.heap.size → Calls Try.prog 15 #[.slice (some ⟨k, 0, none⟩) 2 2, .int .i64 0, .int .i64 2] (w.alloc (.cells #[.int .u8 1, .int .u8 2] 5)) fun e w' => e = .returned (.tuple #[.int .u64 258, .bool true]) ∧ w.alloc (.cells #[.int .u8 1, .int .u8 2] 5) = w' :=
    fun w k hk => wire_Number_ok (Bs.lit w [1, 2] _ _ 2 k hk (by rfl) rfl (by decide)) 0 2 (by rfl) (by rfl) (by omega) (by omega) (by omega)
  have n2 : ∀ (w : World) (k : Nat), k = w.heap.size → Calls Try.prog 9 #[.slice (some ⟨k, 0, none⟩) 2 2] (w.alloc (.cells #[.int .u8 0, .int .u8 1] 5)) fun e w' => e = .returned (.int .i64 65534) ∧ w.alloc (.cells #[.int .u8 0, .int .u8 1] 5) = w' :=
    fun w k hk => chk01 ▸ wire_Checksum _ 2 2 [0, 1] _ (Bs.lit w [0, 1] _ _ 2 k hk (by rfl) rfl (by decide))
  have n3 : ∀ (w : World) (k k' : Nat), k = w.heap.size → k' = w.heap.size + 1 → Calls Try.prog 8 #[.slice (some ⟨k, 0, none⟩) 1 1, .slice (some ⟨k', 0, none⟩) 2 2] ((w.alloc (.cells #[.int .u8 1] 5)).alloc (.cells #[.int .u8 1, .int .u8 0] 5)) fun e w' => e = .returned (.int .i64 (-1)) ∧ (w.alloc (.cells #[.int .u8 1] 5)).alloc (.cells #[.int .u8 1, .int .u8 0] 5) = w' :=
    fun w k k' hk hk' => wire_Compare _ 1 1 [1] _ 2 2 [1, 0] _ ((Bs.lit w [1] _ _ 1 k hk (by rfl) rfl (by decide)).mono ((Below.refl _ _).alloc (Nat.le_refl _) _)) (Bs.lit (w.alloc (.cells #[.int .u8 1] 5)) [1, 0] _ _ 2 k' (by simp [hk']) (by rfl) rfl (by decide))
  go_enter Try.func7, Try.ntmps7
  go_wp2_with fail
  refine (n1 _ _ rfl).mono ?_
  rintro e w' ⟨rfl, rfl⟩
  go_wp2_with fail
  refine (n2 _ _ (by simp)).mono ?_
  rintro e w' ⟨rfl, rfl⟩
  go_wp2_with fail
  refine (n3 _ _ _ (by simp) (by simp)).mono ?_
  rintro e w' ⟨rfl, rfl⟩
  go_wp2_with fail
  go_ret
  exact ⟨rfl, by repeat (first | exact Below.refl _ _ | assumption | refine Below.alloc ?_ (by first | (simp; done) | (simp; omega)) _ | refine Below.drew ?_ | refine below_drewN ?_ _)⟩

set_option maxHeartbeats 400000 in
theorem law_WireCompares (a : Option Addr) (len cap : Nat) (l : List UInt8) (a' : Option Addr) (len' cap' : Nat) (l' : List UInt8) (same : Bool) (w : World) (h : Bs w a len cap l) (h' : Bs w a' len' cap' l') :
    Calls Try.prog 4 #[.slice a len cap, .slice a' len' cap', .bool same] w fun e w' => e = .returned (.bool true) ∧ Below w.heap.size w w' := by
  have N1 := Lib.hid (cmp_neg l l')
  have N2 := Lib.hid (cmp_self l)
  have r1 := cmp_range l l'
  cases same
  · go_enter Try.func4, Try.ntmps4
    go_wp2_with (at_builtin; refine stop_app rfl rfl ?_)
    refine (awake01 _).mono ?_
    rintro e w1 ⟨rfl, hb⟩
    have g := h.mono hb
    have g' := h'.mono hb
    go_wp2_with (at_builtin; refine stop_app rfl rfl ?_)
    refine (wire_Checksum _ _ _ _ _ g).mono ?_
    rintro e w' ⟨rfl, rfl⟩
    go_wp2_with (at_builtin; refine stop_app rfl rfl ?_)
    refine (ref_Checksum _ _ _ _ _ g).mono ?_
    rintro e w' ⟨rfl, rfl⟩
    go_wp2_with (at_builtin; refine stop_app rfl rfl ?_)
    refine (wire_Equal _ _ _ _ _ _ _ _ _ g g').mono ?_
    rintro e w' ⟨rfl, rfl⟩
    go_wp2_with (at_builtin; refine stop_app rfl rfl ?_)
    refine (ref_Equal _ _ _ _ _ _ _ _ _ g g').mono ?_
    rintro e w2 ⟨rfl, q2⟩
    have g2 := g.quiet q2
    have g2' := g'.quiet q2
    go_wp2_with (at_builtin; refine stop_app rfl rfl ?_)
    refine (wire_Compare _ _ _ _ _ _ _ _ _ (g2) (g2')).mono ?_
    rintro e w' ⟨rfl, rfl⟩
    go_wp2_with (at_builtin; refine stop_app rfl rfl ?_)
    refine (ref_Compare _ _ _ _ _ _ _ _ _ (g2) (g2')).mono ?_
    rintro e w3 ⟨rfl, q3⟩
    have g3 := g2.quiet q3
    have g3' := g2'.quiet q3
    go_wp2_with (at_builtin; refine stop_app rfl rfl ?_)
    refine (wire_Compare _ _ _ _ _ _ _ _ _ (g3') (g3)).mono ?_
    rintro e w' ⟨rfl, rfl⟩
    go_wp2_with (at_builtin; refine stop_app rfl rfl ?_)
    refine (wire_Compare _ _ _ _ _ _ _ _ _ (g3) (g3')).mono ?_
    rintro e w' ⟨rfl, rfl⟩
    go_wp2_with fail
    go_ret
    exact ⟨by rw [N1.out]; simp, (hb.trans (q2.below _)).trans (q3.below _)⟩
  · go_enter Try.func4, Try.ntmps4
    go_wp2_with (at_builtin; refine stop_app rfl rfl ?_)
    refine (awake01 _).mono ?_
    rintro e w1 ⟨rfl, hb⟩
    have g := h.mono hb
    go_wp2_with (at_builtin; refine stop_app rfl rfl ?_)
    refine (wire_Checksum _ _ _ _ _ g).mono ?_
    rintro e w' ⟨rfl, rfl⟩
    go_wp2_with (at_builtin; refine stop_app rfl rfl ?_)
    refine (ref_Checksum _ _ _ _ _ g).mono ?_
    rintro e w' ⟨rfl, rfl⟩
    go_wp2_with (at_builtin; refine stop_app rfl rfl ?_)
    refine (wire_Equal _ _ _ _ _ _ _ _ _ g g).mono ?_
    rintro e w' ⟨rfl, rfl⟩
    go_wp2_with (at_builtin; refine stop_app rfl rfl ?_)
    refine (ref_Equal _ _ _ _ _ _ _ _ _ g g).mono ?_
    rintro e w2 ⟨rfl, q2⟩
    have g2 := g.quiet q2
    go_wp2_with (at_builtin; refine stop_app rfl rfl ?_)
    refine (wire_Compare _ _ _ _ _ _ _ _ _ (g2) (g2)).mono ?_
    rintro e w' ⟨rfl, rfl⟩
    go_wp2_with (at_builtin; refine stop_app rfl rfl ?_)
    refine (ref_Compare _ _ _ _ _ _ _ _ _ (g2) (g2)).mono ?_
    rintro e w3 ⟨rfl, q3⟩
    have g3 := g2.quiet q3
    rw [N2.out]
    go_wp2_with (at_builtin; refine stop_app rfl rfl ?_)
    refine (wire_Compare _ _ _ _ _ _ _ _ _ (g3) (g3)).mono ?_
    rintro e w' ⟨rfl, rfl⟩
    rw [N2.out]
    go_wp2_with (at_builtin; refine stop_app rfl rfl ?_)
    refine (wire_Compare _ _ _ _ _ _ _ _ _ (g3) (g3)).mono ?_
    rintro e w' ⟨rfl, rfl⟩
    rw [N2.out]
    go_wp2_with fail
    go_ret
    exact ⟨rfl, (hb.trans (q2.below _)).trans (q3.below _)⟩

set_option maxHeartbeats 400000 in
theorem law_WireOrders (a : Option Addr) (len cap : Nat) (l : List UInt8) (a' : Option Addr) (len' cap' : Nat) (l' : List UInt8) (a2 : Option Addr) (len2 cap2 : Nat) (l2 : List UInt8) (w : World)
    (h : Bs w a len cap l) (u : len ≤ 1048576) (h' : Bs w a' len' cap' l') (u' : len' ≤ 1048576) (h2 : Bs w a2 len2 cap2 l2) (u2 : len2 ≤ 1048576) :
    Calls Try.prog 3 #[.slice a len cap, .slice a' len' cap', .slice a2 len2 cap2] w fun e w' => e = .returned (.bool true) ∧ Below w.heap.size w w' := by
  have T := cmp_le_trans l l' l2
  have S := Lib.hid (cmp_self l)
  have Pf := cmp_prefix l l2
  have e0 := h.len_eq
  have e2 := h2.len_eq
  subst e0 e2
  generalize hx : Lib.compareBytes l l' = x at T
  generalize hy : Lib.compareBytes l' l2 = y at T
  generalize hz : Lib.compareBytes l l2 = z at T
  generalize hp : Lib.compareBytes l (l ++ l2) = p at Pf
  have HX := Lib.hid hx
  have HY := Lib.hid hy
  have HZ := Lib.hid hz
  have HP := Lib.hid hp
  clear hx hy hz hp
  by_cases c1 : x ≤ 0
  · by_cases c2 : y ≤ 0
    · have c3 := T c1 c2
      clear T
      go_enter Try.func3, Try.ntmps3
      go_wp2_with (at_builtin; refine stop_app rfl rfl ?_)
      refine (awake01 _).mono ?_
      rintro e w1 ⟨rfl, hb⟩
      have g := h.mono hb
      have g' := h'.mono hb
      have g2 := h2.mono hb
      go_wp2_with (at_builtin; refine stop_app rfl rfl ?_)
      refine (wire_Compare _ _ _ _ _ _ _ _ _ g g').mono ?_
      rintro e w' ⟨rfl, rfl⟩
      rw [HX.out]
      go_wp2_with (at_builtin; refine stop_app rfl rfl ?_)
      refine (wire_Compare _ _ _ _ _ _ _ _ _ g' g2).mono ?_
      rintro e w' ⟨rfl, rfl⟩
      rw [HY.out]
      go_wp2_with (at_builtin; refine stop_app rfl rfl ?_)
      refine (wire_Compare _ _ _ _ _ _ _ _ _ g g2).mono ?_
      rintro e w' ⟨rfl, rfl⟩
      rw [HZ.out]
      go_wp2_with (at_builtin; refine stop_app rfl rfl ?_)
      obtain ⟨v1, w2, hr, ho, hg, hb2, _⟩ := app_bytes (Own.nil w1 w1.heap.size 5) g (by simp; omega) (Nat.le_refl _)
      refine AppStop.mk hr ?_
      clear hr
      have g3 := g.mono hb2
      have g4 := g2.mono hb2
      rw [List.nil_append] at ho
      go_wp2_with (at_builtin; refine stop_app rfl rfl ?_)
      obtain ⟨v2, w3, hr, ho2, hg2, hb3, _⟩ := app_bytes ho g4 (by omega) hb2.size
      refine AppStop.mk hr ?_
      clear hr
      have hbig : (l ++ l2).length ≤ 140737488355328 := by simp; omega
      obtain ⟨a3, cap3, hv3, g5, _⟩ := ho2.bs hbig
      rw [List.length_append] at hv3 g5
      rw [hv3]
      have g6 := g.mono (hb2.trans hb3)
      clear hv3 ho2 ho hg hg2 hbig
      go_wp2_with (at_builtin; refine stop_app rfl rfl ?_)
      refine (wire_Compare _ _ _ _ _ _ _ _ _ g6 g5).mono ?_
      rintro e w' ⟨rfl, rfl⟩
      rw [HP.out]
      go_wp2_with (at_builtin; refine stop_app rfl rfl ?_)
      refine (wire_Compare _ _ _ _ _ _ _ _ _ g6 g6).mono ?_
      rintro e w' ⟨rfl, rfl⟩
      rw [S.out]
      go_wp2_with (at_builtin; refine stop_app rfl rfl ?_)
      go_ret
      exact ⟨rfl, (hb.trans (hb2.mono hb.size)).trans (hb3.mono hb.size)⟩
    · clear T
      go_enter Try.func3, Try.ntmps3
      go_wp2_with (at_builtin; refine stop_app rfl rfl ?_)
      refine (awake01 _).mono ?_
      rintro e w1 ⟨rfl, hb⟩
      have g := h.mono hb
      have g' := h'.mono hb
      have g2 := h2.mono hb
      go_wp2_with (at_builtin; refine stop_app rfl rfl ?_)
      refine (wire_Compare _ _ _ _ _ _ _ _ _ g g').mono ?_
      rintro e w' ⟨rfl, rfl⟩
      rw [HX.out]
      go_wp2_with (at_builtin; refine stop_app rfl rfl ?_)
      refine (wire_Compare _ _ _ _ _ _ _ _ _ g' g2).mono ?_
      rintro e w' ⟨rfl, rfl⟩
      rw [HY.out]
      go_wp2_with (at_builtin; refine stop_app rfl rfl ?_)
      obtain ⟨v1, w2, hr, ho, hg, hb2, _⟩ := app_bytes (Own.nil w1 w1.heap.size 5) g (by simp; omega) (Nat.le_refl _)
      refine AppStop.mk hr ?_
      clear hr
      have g3 := g.mono hb2
      have g4 := g2.mono hb2
      rw [List.nil_append] at ho
      go_wp2_with (at_builtin; refine stop_app rfl rfl ?_)
      obtain ⟨v2, w3, hr, ho2, hg2, hb3, _⟩ := app_bytes ho g4 (by omega) hb2.size
      refine AppStop.mk hr ?_
      clear hr
      have hbig : (l ++ l2).length ≤ 140737488355328 := by simp; omega
      obtain ⟨a3, cap3, hv3, g5, _⟩ := ho2.bs hbig
      rw [List.length_append] at hv3 g5
      rw [hv3]
      have g6 := g.mono (hb2.trans hb3)
      clear hv3 ho2 ho hg hg2 hbig
      go_wp2_with (at_builtin; refine stop_app rfl rfl ?_)
      refine (wire_Compare _ _ _ _ _ _ _ _ _ g6 g5).mono ?_
      rintro e w' ⟨rfl, rfl⟩
      rw [HP.out]
      go_wp2_with (at_builtin; refine stop_app rfl rfl ?_)
      refine (wire_Compare _ _ _ _ _ _ _ _ _ g6 g6).mono ?_
      rintro e w' ⟨rfl, rfl⟩
      rw [S.out]
      go_wp2_with (at_builtin; refine stop_app rfl rfl ?_)
      go_ret
      exact ⟨rfl, (hb.trans (hb2.mono hb.size)).trans (hb3.mono hb.size)⟩
  · clear T
    go_enter Try.func3, Try.ntmps3
    go_wp2_with (at_builtin; refine stop_app rfl rfl ?_)
    refine (awake01 _).mono ?_
    rintro e w1 ⟨rfl, hb⟩
    have g := h.mono hb
    have g' := h'.mono hb
    have g2 := h2.mono hb
    go_wp2_with (at_builtin; refine stop_app rfl rfl ?_)
    refine (wire_Compare _ _ _ _ _ _ _ _ _ g g').mono ?_
    rintro e w' ⟨rfl, rfl⟩
    rw [HX.out]
    go_wp2_with (at_builtin; refine stop_app rfl rfl ?_)
    obtain ⟨v1, w2, hr, ho, hg, hb2, _⟩ := app_bytes (Own.nil w1 w1.heap.size 5) g (by simp; omega) (Nat.le_refl _)
    refine AppStop.mk hr ?_
    clear hr
    have g3 := g.mono hb2
    have g4 := g2.mono hb2
    rw [List.nil_append] at ho
    go_wp2_with (at_builtin; refine stop_app rfl rfl ?_)
    obtain ⟨v2, w3, hr, ho2, hg2, hb3, _⟩ := app_bytes ho g4 (by omega) hb2.size
    refine AppStop.mk hr ?_
    clear hr
    have hbig : (l ++ l2).length ≤ 140737488355328 := by simp; omega
    obtain ⟨a3, cap3, hv3, g5, _⟩ := ho2.bs hbig
    rw [List.length_append] at hv3 g5
    rw [hv3]
    have g6 := g.mono (hb2.trans hb3)
    clear hv3 ho2 ho hg hg2 hbig
    go_wp2_with (at_builtin; refine stop_app rfl rfl ?_)
    refine (wire_Compare _ _ _ _ _ _ _ _ _ g6 g5).mono ?_
    rintro e w' ⟨rfl, rfl⟩
    rw [HP.out]
    go_wp2_with (at_builtin; refine stop_app rfl rfl ?_)
    refine (wire_Compare _ _ _ _ _ _ _ _ _ g6 g6).mono ?_
    rintro e w' ⟨rfl, rfl⟩
    rw [S.out]
    go_wp2_with (at_builtin; refine stop_app rfl rfl ?_)
    go_ret
    exact ⟨rfl, (hb.trans (hb2.mono hb.size)).trans (hb3.mono hb.size)⟩

set_option maxHeartbeats 800000 in
theorem law_WireSlices (a : Option Addr) (len cap : Nat) (l : List UInt8) (at_ : Int) (w : World) (h : Bs w a len cap l) (lo : 0 ≤ at_) (hi : at_ ≤ 255) :
    Calls Try.prog 5 #[.slice a len cap, .int .u8 at_] w fun e w' => e = .returned (.bool true) ∧ Below w.heap.size w w' := by
  have e0 := h.len_eq
  subst e0
  have hll := h.len_le
  have n0 : 0 ≤ at_ % ((l.length : Int) + 1) := Int.emod_nonneg _ (by omega)
  have n1 : at_ % ((l.length : Int) + 1) ≤ l.length := by have := Int.emod_lt_of_pos at_ (show 0 < (l.length : Int) + 1 by omega); omega
  generalize hn : at_ % ((l.length : Int) + 1) = n at n0 n1
  obtain ⟨k, rfl⟩ := Int.eq_ofNat_of_zero_le n0
  have HN := Lib.hid hn
  clear hn n0
  have hk : k ≤ l.length := by omega
  clear n1
  have hsplit : (l.drop 0).take k ++ (l.drop k).take (l.length - k) = l := by simp [List.take_of_length_le]
  have HS := Lib.hid hsplit
  clear hsplit
  have hlx : ((l.drop 0).take k).length = k := by simp; omega
  have hly : ((l.drop k).take (l.length - k)).length = l.length - k := by simp
  have HLX := Lib.hid hlx
  have HLY := Lib.hid hly
  have ecast : (l.length : Int) - k = ((l.length - k : Nat) : Int) := by omega
  clear hlx hly
  go_enter Try.func5, Try.ntmps5
  go_wp2_with (at_builtin; refine stop_app rfl rfl ?_)
  refine (awake01 _).mono ?_
  rintro e w1 ⟨rfl, hb⟩
  have g := h.mono hb
  go_wp2_with (at_builtin; refine stop_app rfl rfl ?_)
  rw [HN.out]
  go_wp2_with (at_builtin; refine stop_app rfl rfl ?_)
  refine (wire_Slice_ok g 0 k (by rfl) (by rfl) (by omega)).mono ?_
  rintro e w' ⟨⟨ax, rfl, gx⟩, rfl⟩
  go_wp2_with (at_builtin; refine stop_app rfl rfl ?_)
  refine (wire_Slice_ok g k (l.length - k) (by rfl) (by rfl) (by omega)).mono ?_
  rintro e w' ⟨⟨ay, rfl, gy⟩, rfl⟩
  go_wp2_with (at_builtin; refine stop_app rfl rfl ?_)
  obtain ⟨v1, w2, hr, ho, hg, hb2, _⟩ := app_bytes (Own.nil w1 w1.heap.size 5) gx (by rw [HLX.out]; simp; omega) (Nat.le_refl _)
  refine AppStop.mk hr ?_
  clear hr
  have gy2 := gy.mono hb2
  rw [List.nil_append] at ho
  go_wp2_with (at_builtin; refine stop_app rfl rfl ?_)
  obtain ⟨v2, w3, hr, ho2, hg2, hb3, _⟩ := app_bytes ho gy2 (by rw [HLX.out, HLY.out]; omega) hb2.size
  refine AppStop.mk hr ?_
  clear hr
  rw [HS.out] at ho2
  obtain ⟨a3, cap3, hv3, g5, _⟩ := ho2.bs hll
  rw [hv3]
  have g6 := g.mono (hb2.trans hb3)
  clear hv3 ho2 ho hg hg2
  go_wp2_with (at_builtin; refine stop_app rfl rfl ?_)
  refine (wire_Equal _ _ _ _ _ _ _ _ _ g5 g6).mono ?_
  rintro e w' ⟨rfl, rfl⟩
  have hfin : Below w.heap.size w w3 := (hb.trans (hb2.mono hb.size)).trans (hb3.mono hb.size)
  by_cases d1 : l.length < 2
  · go_wp2_with (at_builtin; refine stop_app rfl rfl ?_)
    go_ret
    exact ⟨rfl, hfin⟩
  · by_cases d2 : 8 < l.length
    · go_wp2_with (at_builtin; refine stop_app rfl rfl ?_)
      go_ret
      exact ⟨rfl, hfin⟩
    · by_cases d3 : k = 0
      · subst d3
        go_wp2_with (at_builtin; refine stop_app rfl rfl ?_)
        go_ret
        exact ⟨rfl, hfin⟩
      · have d3' : ((k : Int) == 0) = false := by simp; omega
        by_cases d4 : k = l.length
        · have d4' : ((k : Int) == (l.length : Int)) = true := by simp [d4]
          clear d4
          go_wp2_with (at_builtin; refine stop_app rfl rfl ?_)
          all_goals
            go_ret
            exact ⟨rfl, hfin⟩
        · have d4' : ((k : Int) == (l.length : Int)) = false := by simp; omega
          go_wp2_with (at_builtin; refine stop_app rfl rfl ?_)
          refine (wire_Number_ok g6 0 l.length (by rfl) (by rfl) (by omega) (by omega) (by omega)).mono ?_
          rintro e w' ⟨rfl, rfl⟩
          go_wp2_with (at_builtin; refine stop_app rfl rfl ?_)
          refine (wire_Number_ok g6 0 k (by rfl) (by rfl) (by omega) (by omega) (by omega)).mono ?_
          rintro e w' ⟨rfl, rfl⟩
          go_wp2_with (at_builtin; refine stop_app rfl rfl ?_)
          refine (wire_Number_ok g6 k (l.length - k) (by rfl) (by rfl) (by omega) (by omega) (by omega)).mono ?_
          rintro e w' ⟨rfl, rfl⟩
          go_wp2_with (at_builtin; refine stop_app rfl rfl ?_)
          go_ret
          refine ⟨?_, hfin⟩
          have := num_parts l k hk (by omega)
          simp [this]

set_option maxHeartbeats 800000 in
theorem law_WireTexts (s : ByteArray) (a : Option Addr) (len cap : Nat) (l : List UInt8) (w : World) (_hs0 : s.size ≤ 140737488351232) (hs : s.size ≤ 1048576) (h : Bs w a len cap l) (u : len ≤ 1048576) :
    Calls Try.prog 6 #[.string s, .slice a len cap] w fun e w' => e = .returned (.bool true) ∧ Below w.heap.size w w' := by
  have hsz : (ByteArray.mk (hexs l).toArray).size ≤ 2097152 := by
    have : (ByteArray.mk (hexs l).toArray).size = (hexs l).length := by simp [ByteArray.size]
    rw [this, hexs_length]
    have := h.len_eq
    omega
  have E0 := Lib.hid (uerr_hexs l)
  have R0 := Lib.hid (ures_hexs l)
  go_enter Try.func6, Try.ntmps6
  go_wp2_with (at_builtin; refine stop_app rfl rfl ?_)
  refine (awake01 _).mono ?_
  rintro e w1 ⟨rfl, hb1⟩
  go_wp2_with (at_builtin; refine stop_app rfl rfl ?_)
  refine (wire_Unhex s _ (by omega)).mono ?_
  rintro e w2 ⟨⟨a2, n2, c2, rfl, g2⟩, hb2⟩
  go_wp2_with (at_builtin; refine stop_app rfl rfl ?_)
  refine (ref_Unhex s _ (by omega)).mono ?_
  rintro e w3 ⟨⟨a3, n3, c3, rfl, g3⟩, hb3⟩
  have h3 := h.mono ((hb1.trans (hb2.mono hb1.size)).trans (hb3.mono (Nat.le_trans hb1.size hb2.size)))
  go_wp2_with (at_builtin; refine stop_app rfl rfl ?_)
  refine (wire_Hex _ _ _ _ _ h3 u).mono ?_
  rintro e w4 ⟨rfl, hb4⟩
  go_wp2_with (at_builtin; refine stop_app rfl rfl ?_)
  refine (wire_Unhex _ _ hsz).mono ?_
  rintro e w5 ⟨⟨a5, n5, c5, rfl, g5⟩, hb5⟩
  rw [E0.out]
  have B14 := (hb1.trans (hb2.mono hb1.size)).trans (hb3.mono (Nat.le_trans hb1.size hb2.size))
  have B15 := (B14.trans (hb4.mono B14.size)).trans (hb5.mono (Nat.le_trans B14.size hb4.size))
  have g25 := g2.mono ((hb3.trans (hb4.mono hb3.size)).trans (hb5.mono (Nat.le_trans hb3.size hb4.size)))
  have g35 := g3.mono (hb4.trans (hb5.mono hb4.size))
  go_wp2_with (at_builtin; refine stop_app rfl rfl ?_)
  refine (ref_Equal _ _ _ _ _ _ _ _ _ g25 g35).mono ?_
  rintro e w6 ⟨rfl, q6⟩
  have h6 := (h3.mono (hb4.trans (hb5.mono hb4.size))).quiet q6
  go_wp2_with (at_builtin; refine stop_app rfl rfl ?_)
  refine (ref_Hex _ _ _ _ _ h6 u).mono ?_
  rintro e w7 ⟨rfl, hb7⟩
  have g57 := (g5.quiet q6).mono hb7
  go_wp2_with (at_builtin; refine stop_app rfl rfl ?_)
  rw [R0.out] at g57
  have h7 := h6.mono hb7
  refine (ref_Equal _ _ _ _ _ _ _ _ _ g57 h7).mono ?_
  rintro e w8 ⟨rfl, q8⟩
  go_wp2_with (at_builtin; refine stop_app rfl rfl ?_)
  go_ret
  exact ⟨by simp, ((B15.trans (q6.below _)).trans (hb7.mono (Nat.le_trans B15.size (q6.below 0).size))).trans (q8.below _)⟩
end Go.Proofs.Ytihhjiinoffboaa
