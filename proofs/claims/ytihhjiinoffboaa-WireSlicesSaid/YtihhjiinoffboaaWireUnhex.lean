import Derived.Test.YtihhjiinoffboaaWireHex
set_option linter.unusedVariables false
namespace Go.Proofs.Ytihhjiinoffboaa
open Go.RowKit

theorem dval_range (c : Int) : 0 ≤ dval c ∧ dval c ≤ 15 := by
  unfold dval; repeat' split
  all_goals omega
/-- The byte of two digits. -/
def ub (x y : UInt8) : UInt8 := UInt8.ofNat (dval x.toNat * 16 + dval y.toNat).toNat
def unp : List UInt8 → List UInt8
  | x :: y :: r => ub x y :: unp r
  | _ => []
def dokb (x : UInt8) : Bool := dok x.toNat
def uerr (l : List UInt8) : Int := if l.length % 2 = 0 then (if l.all dokb then 0 else 4) else 2
def ures (l : List UInt8) : List UInt8 := if uerr l = 0 then unp l else []

theorem ub_toNat (x y : UInt8) : ((ub x y).toNat : Int) = dval x.toNat * 16 + dval y.toNat := by
  have h1 := dval_range x.toNat
  have h2 := dval_range y.toNat
  unfold ub
  rw [UInt8.toNat_ofNat']
  omega

theorem unp_snoc : ∀ (l : List UInt8) (x y : UInt8), l.length % 2 = 0 → unp (l ++ [x, y]) = unp l ++ [ub x y]
  | [], x, y, _ => rfl
  | [_], _, _, h => by simp at h
  | a :: b :: r, x, y, h => by
    have := unp_snoc r x y (by simp at h; omega)
    simp [unp, this]
theorem unp_length : ∀ (l : List UInt8), (unp l).length = l.length / 2
  | [] => rfl
  | [_] => by simp [unp]
  | a :: b :: r => by simp [unp, unp_length r]; omega
theorem dok_dig (n : Nat) (h : n < 16) : dokb (digs.getD n 0) = true ∧ dval (digs.getD n 0).toNat = n := by
  rcases (show n = 0 ∨ n = 1 ∨ n = 2 ∨ n = 3 ∨ n = 4 ∨ n = 5 ∨ n = 6 ∨ n = 7 ∨ n = 8 ∨ n = 9 ∨ n = 10 ∨ n = 11 ∨ n = 12 ∨ n = 13 ∨ n = 14 ∨ n = 15 from by omega) with rfl | rfl | rfl | rfl | rfl | rfl | rfl | rfl | rfl | rfl | rfl | rfl | rfl | rfl | rfl | rfl <;> decide
theorem unp_hexs (l : List UInt8) : unp (hexs l) = l ∧ (hexs l).all dokb = true := by
  induction l with
  | nil => exact ⟨rfl, rfl⟩
  | cons x l ih =>
    have h1 := dok_dig (x.toNat / 16) (by have := x.toNat_lt; omega)
    have h2 := dok_dig (x.toNat % 16) (by omega)
    have e : hexs (x :: l) = digs.getD (x.toNat / 16) 0 :: digs.getD (x.toNat % 16) 0 :: hexs l := by simp [hexs]
    rw [e]
    refine ⟨?_, by simp only [List.all_cons, h1.1, h2.1, ih.2, Bool.and_true]⟩
    rw [unp, ih.1]
    congr 1
    apply UInt8.toNat_inj.1
    have := ub_toNat (digs.getD (x.toNat / 16) 0) (digs.getD (x.toNat % 16) 0)
    rw [h1.2, h2.2] at this
    omega
theorem uerr_hexs (l : List UInt8) : uerr (hexs l) = 0 := by
  rw [uerr, hexs_length, if_pos (by omega), if_pos (unp_hexs l).2]
theorem ures_hexs (l : List UInt8) : ures (hexs l) = l := by rw [ures, if_pos (uerr_hexs l), (unp_hexs l).1]

theorem all_take_next (l : List UInt8) (k : Nat) (h : 2 * k + 1 < l.length) (ha : (l.take (2 * k)).all dokb = true) (h1 : dokb l[2 * k] = true) (h2 : dokb l[2 * k + 1] = true) : (l.take (2 * (k + 1))).all dokb = true := by
  rw [show 2 * (k + 1) = 2 * k + 1 + 1 from by omega, List.take_succ_eq_append_getElem (by omega), List.take_succ_eq_append_getElem (by omega)]
  simp only [List.all_append, ha, List.all_cons, List.all_nil, h1, h2, Bool.and_true]
theorem unp_take_next (l : List UInt8) (k : Nat) (h : 2 * k + 1 < l.length) : unp (l.take (2 * (k + 1))) = unp (l.take (2 * k)) ++ [ub l[2 * k] l[2 * k + 1]] := by
  rw [show 2 * (k + 1) = 2 * k + 1 + 1 from by omega, List.take_succ_eq_append_getElem (by omega), List.take_succ_eq_append_getElem (by omega), List.append_assoc]
  exact unp_snoc _ _ _ (by simp; omega)
theorem uerr_bad (l : List UInt8) (j : Nat) (h : j < l.length) (he : l.length % 2 = 0) (hb : dokb l[j] = false) : uerr l = 4 := by
  rw [uerr, if_pos he, if_neg]
  intro ha
  rw [List.all_eq_true] at ha
  rw [ha _ (List.getElem_mem h)] at hb
  cases hb

set_option maxHeartbeats 800000 in
theorem wire_Unhex (s : ByteArray) (w : World) (hs : s.size ≤ 2097152) :
    Calls Try.prog 16 #[.string s] w fun e w' => (∃ a n cap, e = .returned (.tuple #[.slice a n cap, .int .i64 (uerr s.data.toList)]) ∧ Bs w' a n cap (ures s.data.toList)) ∧ Below w.heap.size w w' := by
  by_cases hodd : s.size % 2 = 0
  · have hodd' : ((s.size : Int) % 2 != 0) = false := by simp; omega
    have hsz : s.data.toList.length = s.size := by rw [Array.length_toList]; rfl
    have HSZ := Lib.hid hsz
    clear hsz
    go_enter Try.func16, Try.ntmps16
    go_wp2_with fail
    go_loopw [4, 5] (fun v i wr => ∃ k : Nat, 2 * k ≤ s.size ∧ i = .int .i64 (2 * k : Nat) ∧ Own wr w.heap.size 5 v (unp (s.data.toList.take (2 * k))) ∧ (s.data.toList.take (2 * k)).all dokb = true ∧ Below w.heap.size w wr) (fun _ i _ => s.size - (intOf i).toNat)
    case atStart => exact ⟨0, by omega, rfl, by simpa [unp] using Own.nil w _ _, by simp, Below.refl _ _⟩
    case round =>
      obtain ⟨k, hk, rfl, ho, ha, hb⟩ := hrel
      have HA := Lib.hid ha
      clear ha
      by_cases hlt : 2 * k < s.size
      · have h1 := (s[2 * k]).toNat_lt
        have h2 := (s[2 * k + 1]).toNat_lt
        have hl1 : 2 * k + 1 < s.data.toList.length := by rw [HSZ.out]; omega
        have ex : s.data.toList[2 * k]'(by omega) = s[2 * k] := rfl
        have ey : s.data.toList[2 * k + 1] = s[2 * k + 1] := rfl
        have B1 := uerr_bad s.data.toList (2 * k) (by omega) (by rw [HSZ.out]; exact hodd)
        have B2 := uerr_bad s.data.toList (2 * k + 1) hl1 (by rw [HSZ.out]; exact hodd)
        have AN := all_take_next s.data.toList k hl1 HA.out
        have UN := unp_take_next s.data.toList k hl1
        rw [ex] at B1 AN UN
        rw [ey] at B2 AN UN
        clear ex ey
        have hi2 : (2 * (k : Int) + 1) < (s.size : Int) := by omega
        have eix : ∀ w, (Instr.index 9 (.string s) (.int .i64 (2 * (k : Int)))).run Try.prog w = .ok (.int .u8 ((s[2 * k]).toNat : Int)) w := fun w => by
          rw [run_index_string w 9 s .i64 _ Try.underlying9, dif_pos ⟨by omega, by omega⟩]; congr 3
        have eiy : ∀ w, (Instr.index 9 (.string s) (.int .i64 (2 * (k : Int) + 1))).run Try.prog w = .ok (.int .u8 ((s[2 * k + 1]).toNat : Int)) w := fun w => by
          rw [run_index_string w 9 s .i64 _ Try.underlying9, dif_pos ⟨by omega, by omega⟩]; congr 3
        generalize s[2 * k] = x at *
        generalize s[2 * k + 1] = y at *
        have hB1 := Lib.hid B1
        have hB2 := Lib.hid B2
        have hAN := Lib.hid AN
        have hUN := Lib.hid UN
        clear B1 B2 AN UN
        have gu := Lib.hid (ub_toNat x y)
        have rx := dval_range x.toNat
        have ry := dval_range y.toNat
        go_wp2_with (at_builtin; refine stop_app rfl rfl ?_)
        refine (wire_digit x.toNat wr (by omega) (by omega)).mono ?_
        rintro e w' ⟨rfl, rfl⟩
        go_wp2_with (at_builtin; refine stop_app rfl rfl ?_)
        refine (wire_digit y.toNat wr (by omega) (by omega)).mono ?_
        rintro e w' ⟨rfl, rfl⟩
        cases cx : dok x.toNat with
        | false =>
          have hE := hB1.out cx
          have hR : ures s.data.toList = [] := by rw [ures, if_neg (by rw [hE]; decide)]
          have HE := Lib.hid hE
          have HR := Lib.hid hR
          clear hE hR
          cases dok y.toNat with
          | false =>
            go_wp2_with (at_builtin; refine stop_app rfl rfl ?_)
            go_ret2
            exact ⟨⟨none, 0, 0, by rw [HE.out]; rfl, by rw [HR.out]; exact Bs.zero _ _ _ (by omega)⟩, hb⟩
          | true =>
            go_wp2_with (at_builtin; refine stop_app rfl rfl ?_)
            go_ret2
            exact ⟨⟨none, 0, 0, by rw [HE.out]; rfl, by rw [HR.out]; exact Bs.zero _ _ _ (by omega)⟩, hb⟩
        | true =>
          cases cy : dok y.toNat with
          | false =>
            have hE := hB2.out cy
            have hR : ures s.data.toList = [] := by rw [ures, if_neg (by rw [hE]; decide)]
            have HE := Lib.hid hE
            have HR := Lib.hid hR
            clear hE hR
            go_wp2_with (at_builtin; refine stop_app rfl rfl ?_)
            go_ret2
            exact ⟨⟨none, 0, 0, by rw [HE.out]; rfl, by rw [HR.out]; exact Bs.zero _ _ _ (by omega)⟩, hb⟩
          | true =>
            have hA2 := Lib.hid (hAN.out cx cy)
            clear hB1 hB2 hAN
            generalize dval x.toNat = px at *
            generalize dval y.toNat = py at *
            have eor : bits .or .u8 (px * 16) py = ((ub x y).toNat : Int) := by
              rw [gu.out, bits_join .u8 8 (by decide) wraps_u8 4 _ _ (by omega) (by omega) (by omega) (by omega) (by omega) (by omega)]
            go_wp2_with (at_builtin; refine stop_app rfl rfl ?_)
            have hlen : (unp (s.data.toList.take (2 * k))).length ≤ s.size := by rw [unp_length, List.length_take]; omega
            obtain ⟨v2, w2, hr, ho2, hg2, hb2, _⟩ := app_bytes (w := wr.alloc (.cells #[.int .u8 (ub x y).toNat] 5))
              (ho.below ((Below.refl _ _).alloc (Nat.le_refl _) _)) (Bs.lit wr [ub x y] _ _ 1 wr.heap.size rfl (by rfl) rfl (by simp))
              (by simp; omega) (by have := hb.size; simp; omega)
            refine AppStop.mk hr ?_
            clear hr
            have hadd : ((2 * (k + 1) : Nat) : Int) = 2 * (k : Int) + 2 := by omega
            have HADD := Lib.hid hadd
            clear hadd
            go_wp2_with fail
            refine ⟨⟨k + 1, by omega, by rw [HADD.out], by rw [hUN.out]; exact ho2, hA2.out, hb.trans (((Below.refl _ _).alloc hb.size _).trans hb2)⟩, by simp [intOf]; omega⟩
      · have hk2 : 2 * k = s.size := by omega
        rw [hk2] at ho HA ⊢
        have hT : s.data.toList.take s.size = s.data.toList := List.take_of_length_le (by rw [HSZ.out]; omega)
        have hE : uerr s.data.toList = 0 := by rw [uerr, HSZ.out, if_pos hodd, if_pos (by rw [← hT]; exact HA.out)]
        have hR : ures s.data.toList = unp s.data.toList := by rw [ures, if_pos hE]
        have HE := Lib.hid hE
        have HR := Lib.hid hR
        rw [hT] at ho
        obtain ⟨a3, cap3, hv3, g3, _⟩ := ho.bs (by rw [unp_length, HSZ.out]; omega)
        subst hv3
        clear hk2 hk hT hE hR
        go_wp2_with fail
        go_ret2
        exact ⟨⟨a3, _, cap3, by rw [HE.out]; rfl, by rw [HR.out]; exact g3⟩, hb⟩
  · have hodd' : ((s.size : Int) % 2 != 0) = true := by simp; omega
    have hE : uerr s.data.toList = 2 := by rw [uerr, Array.length_toList]; exact if_neg hodd
    have hR : ures s.data.toList = [] := by rw [ures, if_neg (by rw [hE]; decide)]
    rw [hE, hR]
    clear hE hR
    go_enter Try.func16, Try.ntmps16
    go_wp2_with fail
    go_ret2
    exact ⟨⟨_, _, _, rfl, Bs.zero _ _ _ (by omega)⟩, Below.refl _ _⟩
set_option maxHeartbeats 800000 in
theorem ref_Unhex (s : ByteArray) (w : World) (hs : s.size ≤ 2097152) :
    Calls Try.prog 17 #[.string s] w fun e w' => (∃ a n cap, e = .returned (.tuple #[.slice a n cap, .int .i64 (uerr s.data.toList)]) ∧ Bs w' a n cap (ures s.data.toList)) ∧ Below w.heap.size w w' := by
  by_cases hodd : s.size % 2 = 0
  · have hodd' : ((s.size : Int) % 2 == 1) = false := by simp; omega
    have hsz : s.data.toList.length = s.size := by rw [Array.length_toList]; rfl
    have HSZ := Lib.hid hsz
    clear hsz
    go_enter Try.func17, Try.ntmps17
    go_wp2_with fail
    go_loopw [4, 5] (fun v i wr => ∃ k : Nat, 2 * k ≤ s.size ∧ i = .int .i64 (2 * k : Nat) ∧ Own wr w.heap.size 5 v (unp (s.data.toList.take (2 * k))) ∧ (s.data.toList.take (2 * k)).all dokb = true ∧ Below w.heap.size w wr) (fun _ i _ => s.size - (intOf i).toNat)
    case atStart => exact ⟨0, by omega, rfl, by simpa [unp] using Own.nil w _ _, by simp, Below.refl _ _⟩
    case round =>
      obtain ⟨k, hk, rfl, ho, ha, hb⟩ := hrel
      have HA := Lib.hid ha
      clear ha
      by_cases hlt : 2 * k < s.size
      · have h1 := (s[2 * k]).toNat_lt
        have h2 := (s[2 * k + 1]).toNat_lt
        have hl1 : 2 * k + 1 < s.data.toList.length := by rw [HSZ.out]; omega
        have ex : s.data.toList[2 * k]'(by omega) = s[2 * k] := rfl
        have ey : s.data.toList[2 * k + 1] = s[2 * k + 1] := rfl
        have B1 := uerr_bad s.data.toList (2 * k) (by omega) (by rw [HSZ.out]; exact hodd)
        have B2 := uerr_bad s.data.toList (2 * k + 1) hl1 (by rw [HSZ.out]; exact hodd)
        have AN := all_take_next s.data.toList k hl1 HA.out
        have UN := unp_take_next s.data.toList k hl1
        rw [ex] at B1 AN UN
        rw [ey] at B2 AN UN
        clear ex ey
        have hi2 : (2 * (k : Int) + 1) < (s.size : Int) := by omega
        have eix : ∀ w, (Instr.index 9 (.string s) (.int .i64 (2 * (k : Int)))).run Try.prog w = .ok (.int .u8 ((s[2 * k]).toNat : Int)) w := fun w => by
          rw [run_index_string w 9 s .i64 _ Try.underlying9, dif_pos ⟨by omega, by omega⟩]; congr 3
        have eiy : ∀ w, (Instr.index 9 (.string s) (.int .i64 (2 * (k : Int) + 1))).run Try.prog w = .ok (.int .u8 ((s[2 * k + 1]).toNat : Int)) w := fun w => by
          rw [run_index_string w 9 s .i64 _ Try.underlying9, dif_pos ⟨by omega, by omega⟩]; congr 3
        generalize s[2 * k] = x at *
        generalize s[2 * k + 1] = y at *
        have hB1 := Lib.hid B1
        have hB2 := Lib.hid B2
        have hAN := Lib.hid AN
        have hUN := Lib.hid UN
        clear B1 B2 AN UN
        have gu := Lib.hid (ub_toNat x y)
        have rx := dval_range x.toNat
        have ry := dval_range y.toNat
        have D1 := fun n => Calls.quiet_of_same (ref_Digit x.toNat (wr.drewN n) (by omega) (by omega) |>.mono fun _ _ ⟨h, h'⟩ => ⟨h, h'.symm⟩)
        have D2 := fun n => Calls.quiet_of_same (ref_Digit y.toNat (wr.drewN n) (by omega) (by omega) |>.mono fun _ _ ⟨h, h'⟩ => ⟨h, h'.symm⟩)
        have hD1 := Lib.hid D1
        have hD2 := Lib.hid D2
        clear D1 D2
        have fin4 : ∀ nq, uerr s.data.toList = 4 → ∃ a n cap, Ending.returned (Value.tuple #[.slice none 0 0, .int .i64 4]) = .returned (.tuple #[.slice a n cap, .int .i64 (uerr s.data.toList)]) ∧ Bs (wr.drewN nq) a n cap (ures s.data.toList) :=
          fun nq hE => ⟨none, 0, 0, by rw [hE], by rw [ures, if_neg (by rw [hE]; decide)]; exact Bs.zero _ _ _ (by omega)⟩
        have F4 := Lib.hid fin4
        clear fin4
        cases cx : dok x.toNat with
        | false =>
          have e1 : ddig x.toNat = -1 := by rw [ddig, cx]; rfl
          rw [e1] at hD1
          have HE := hB1.out cx
          have HE2 := Lib.hid HE
          clear HE e1
          generalize ddig y.toNat = py at *
          by_cases hpy : py < 0
          · go_wp2_with fail
            go_quiet ((first | with_reducible exact hD1.out _ | with_reducible exact hD2.out _))
            go_wp2_with fail
            go_ret2
            exact ⟨F4.out _ HE2.out, below_drewN hb _⟩
          · go_wp2_with fail
            go_quiet ((first | with_reducible exact hD1.out _ | with_reducible exact hD2.out _))
            go_wp2_with fail
            go_ret2
            exact ⟨F4.out _ HE2.out, below_drewN hb _⟩
        | true =>
          have e1 : ddig x.toNat = dval x.toNat := by rw [ddig, cx]; rfl
          rw [e1] at hD1
          clear e1
          cases cy : dok y.toNat with
          | false =>
            have e2 : ddig y.toNat = -1 := by rw [ddig, cy]; rfl
            rw [e2] at hD2
            have HE := hB2.out cy
            have HE2 := Lib.hid HE
            clear HE e2
            generalize dval x.toNat = px at *
            go_wp2_with fail
            go_quiet ((first | with_reducible exact hD1.out _ | with_reducible exact hD2.out _))
            go_wp2_with fail
            go_ret2
            exact ⟨F4.out _ HE2.out, below_drewN hb _⟩
          | true =>
            have e2 : ddig y.toNat = dval y.toNat := by rw [ddig, cy]; rfl
            rw [e2] at hD2
            clear e2
            have hA2 := Lib.hid (hAN.out cx cy)
            clear hB1 hB2 hAN F4
            generalize dval x.toNat = px at *
            generalize dval y.toNat = py at *
            have eor : bits .or .i64 (px * 16) py = ((ub x y).toNat : Int) := by
              rw [gu.out, bits_join .i64 63 (by decide) (fun n h0 h1 => by rw [IntKind.wrap_i64]; omega) 4 _ _ (by omega) (by omega) (by omega) (by omega) (by omega) (by omega)]
            have hub := (ub x y).toNat_lt
            go_wp2_with fail
            go_quiet ((first | with_reducible exact hD1.out _ | with_reducible exact hD2.out _))
            go_wp2_with (at_builtin; refine stop_app rfl rfl ?_)
            have hlen : (unp (s.data.toList.take (2 * k))).length ≤ s.size := by rw [unp_length, List.length_take]; omega
            obtain ⟨v2, w2, hr, ho2, hg2, hb2, _⟩ := app_bytes (w := (wr.drewN nq).alloc (.cells #[.int .u8 (ub x y).toNat] 5))
              (ho.below ((below_drewN (Below.refl _ _) nq).alloc (Nat.le_refl _) _)) (Bs.lit (wr.drewN nq) [ub x y] _ _ 1 wr.heap.size rfl (by rfl) rfl (by simp))
              (by simp; omega) (by have := hb.size; simp; omega)
            refine AppStop.mk hr ?_
            clear hr
            have hadd : ((2 * (k + 1) : Nat) : Int) = 2 * (k : Int) + 2 := by omega
            have HADD := Lib.hid hadd
            clear hadd
            go_wp2_with fail
            refine ⟨⟨k + 1, by omega, by rw [HADD.out], by rw [hUN.out]; exact ho2, hA2.out, hb.trans (((below_drewN (Below.refl _ _) nq).alloc hb.size _).trans hb2)⟩, by simp [intOf]; omega⟩
      · have hk2 : 2 * k = s.size := by omega
        rw [hk2] at ho HA ⊢
        have hT : s.data.toList.take s.size = s.data.toList := List.take_of_length_le (by rw [HSZ.out]; omega)
        have hE : uerr s.data.toList = 0 := by rw [uerr, HSZ.out, if_pos hodd, if_pos (by rw [← hT]; exact HA.out)]
        have hR : ures s.data.toList = unp s.data.toList := by rw [ures, if_pos hE]
        have HE := Lib.hid hE
        have HR := Lib.hid hR
        rw [hT] at ho
        obtain ⟨a3, cap3, hv3, g3, _⟩ := ho.bs (by rw [unp_length, HSZ.out]; omega)
        subst hv3
        clear hk2 hk hT hE hR
        go_wp2_with fail
        go_ret2
        exact ⟨⟨a3, _, cap3, by rw [HE.out]; rfl, by rw [HR.out]; exact g3⟩, hb⟩
  · have hodd' : ((s.size : Int) % 2 == 1) = true := by simp; omega
    have hE : uerr s.data.toList = 2 := by rw [uerr, Array.length_toList]; exact if_neg hodd
    have hR : ures s.data.toList = [] := by rw [ures, if_neg (by rw [hE]; decide)]
    rw [hE, hR]
    clear hE hR
    go_enter Try.func17, Try.ntmps17
    go_wp2_with fail
    go_ret2
    exact ⟨⟨_, _, _, rfl, Bs.zero _ _ _ (by omega)⟩, Below.refl _ _⟩
end Go.Proofs.Ytihhjiinoffboaa
