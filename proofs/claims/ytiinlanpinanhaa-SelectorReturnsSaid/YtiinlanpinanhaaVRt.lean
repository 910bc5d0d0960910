/- Plain laws: selectors that were written are read again. -/
import Derived.Test.YtiinlanpinanhaaVSr
import Derived.Test.YtiinlanpinanhaaVI
import Derived.Test.YtiinlanpinanhaaVG
set_option linter.unusedVariables false
set_option linter.unusedSimpArgs false
namespace Go.Proofs.Ytiinlanpinanhaa.V
open Go.RowKit
theorem num_cons (x : UInt8) (l : List UInt8) : num (x :: l) = x.toNat * 256 ^ l.length + num l := by
  have := num_append [x] l
  simpa [num] using this
theorem num_putB (v : Nat) : ∀ n, num (putB v n) = v % 256 ^ n
  | 0 => by simp [putB, num, Nat.mod_one]
  | n + 1 => by
    have e : IntKind.u8.wrap ((v : Int).fdiv (2 ^ (8 * n))) = ((v / 2 ^ (8 * n) % 256 : Nat) : Int) := by
      have e1 : (v : Int).fdiv (2 ^ (8 * n)) = ((v / 2 ^ (8 * n) : Nat) : Int) := by
        rw [show ((2 : Int) ^ (8 * n)) = ((2 ^ (8 * n) : Nat) : Int) by simp, ← Int.ofNat_fdiv]
      rw [e1, IntKind.wrap_u8]
      omega
    have e2 : (toB (IntKind.u8.wrap ((v : Int).fdiv (2 ^ (8 * n))))).toNat = v / 2 ^ (8 * n) % 256 := by
      have := toB_toNat (n := IntKind.u8.wrap ((v : Int).fdiv (2 ^ (8 * n)))) (by rw [e]; omega) (by rw [e]; omega)
      rw [e] at this
      rw [e]
      exact_mod_cast this
    rw [putB, num_cons, e2, putB_length, num_putB v n, show 256 ^ n = 2 ^ (8 * n) by rw [Nat.pow_mul], show 256 ^ (n + 1) = 2 ^ (8 * n) * 256 by rw [Nat.pow_succ, show 256 ^ n = 2 ^ (8 * n) by rw [Nat.pow_mul]], Nat.mod_mul, Nat.mul_comm]
    omega
theorem numF_at (a r : List UInt8) (v w k : Nat) (hk : a.length = k) (hw : 1 ≤ w ∧ w ≤ 8) (hv : v < 256 ^ w) : numF (a ++ (putB v w ++ r)) k w = ((v : Int), true) := by
  subst hk
  have hl : (putB (v : Int) w).length = w := putB_length _ _
  rw [numF, if_pos (by simp only [List.length_append, hl]; omega), Int.toNat_natCast, Int.toNat_natCast, List.drop_left' rfl, List.take_left' hl, num_putB, Nat.mod_eq_of_lt hv]
theorem numF_put (v w : Nat) (hw : 1 ≤ w ∧ w ≤ 8) (hv : v < 256 ^ w) : numF (putB v w) 0 w = ((v : Int), true) := by
  have := numF_at [] [] v w 0 rfl hw hv
  simpa using this
theorem putF_nat (v w : Nat) (hw : 1 ≤ w ∧ w ≤ 8) : putF (v : Int) w = putB v w := by
  rw [putF, if_pos (by omega), Int.toNat_natCast]
theorem wrap_nat (v : Nat) (h : v < 18446744073709551616) : IntKind.u64.wrap (v : Int) = v := by
  rw [IntKind.wrap_u64]; omega
theorem addrF_adrB {a : AdrT} (h : AdrF 4 (toAdr a)) : addrF (adrB (toAdr a)) = a ∧ (adrB (toAdr a)).length = 4 := by
  obtain ⟨f, hi, lo, u⟩ := a
  obtain ⟨h1, h2, h3⟩ := h
  obtain rfl : f = 4 := h1
  obtain ⟨_, _, _, _, l0, l1⟩ := h2
  simp [valid, toAdr] at h3 l0 l1
  obtain ⟨hz, hlt⟩ := h3
  obtain rfl : hi = 0 := by first | exact hz | exact of_decide_eq_true hz
  replace hlt : lo < 4294967296 := by first | exact hlt | exact of_decide_eq_true hlt
  obtain ⟨n, rfl⟩ := Int.eq_ofNat_of_zero_le l0
  have e : adrB (toAdr (4, 0, (n : Int), u)) = putB n 4 := by simp [adrB, toAdr]
  rw [e, addrF, if_pos (putB_length _ _), show numF (putB (n : Int) 4) 0 4 = _ from numF_put n 4 (by omega) (by omega)]
  exact ⟨rfl, putB_length _ _⟩
theorem addrF_adrB6 {a : AdrT} (h : AdrF 6 (toAdr a)) : addrF (adrB (toAdr a)) = a ∧ (adrB (toAdr a)).length = 16 := by
  obtain ⟨f, hi, lo, u⟩ := a
  obtain ⟨h1, h2, h3⟩ := h
  obtain rfl : f = 6 := h1
  obtain ⟨_, _, h0, h1, l0, l1⟩ := h2
  simp [toAdr] at h0 h1 l0 l1
  obtain ⟨n, rfl⟩ := Int.eq_ofNat_of_zero_le l0
  obtain ⟨m, rfl⟩ := Int.eq_ofNat_of_zero_le h0
  have e : adrB (toAdr (6, (m : Int), (n : Int), u)) = putB m 8 ++ putB n 8 := by simp [adrB, toAdr]
  have e1 := numF_at [] (putB n 8) m 8 0 rfl (by omega) (by omega)
  have e2 := numF_at (putB m 8) [] n 8 8 (putB_length _ _) (by omega) (by omega)
  rw [List.append_nil] at e2
  rw [List.nil_append] at e1
  rw [e, addrF, if_neg (by simp [putB_length])]
  refine ⟨?_, by simp [putB_length]⟩
  rw [show ((0 : Nat) : Int) = 0 from rfl, show ((8 : Nat) : Int) = 8 from rfl] at *
  rw [e1, e2]
/-- The bytes of a selector of a family, one part after the other. -/
theorem oneF_parts (k p L a b w : Nat) (A B r : List UInt8) (sl sh : AdrT) (hk : (k = 7 ∧ L = 16 ∧ w = 4) ∨ (k = 8 ∧ L = 40 ∧ w = 16)) (hp : p < 256) (ha : a < 65536) (hb : b < 65536) (hA : A.length = w) (hB : B.length = w) (hl : addrF A = sl) (hh : addrF B = sh) :
    oneF (UInt8.ofNat k :: UInt8.ofNat p :: (putB (L : Int) 2 ++ (putB (a : Int) 2 ++ (putB (b : Int) 2 ++ (A ++ (B ++ r)))))) = some (((p : Int), (a : Int), (b : Int), sl, sh, ()), r) := by
  have n2 := numF_at [UInt8.ofNat k, UInt8.ofNat p] (putB (a : Int) 2 ++ (putB (b : Int) 2 ++ (A ++ (B ++ r)))) L 2 2 rfl (by omega) (by omega)
  have n4 := numF_at ([UInt8.ofNat k, UInt8.ofNat p] ++ putB (L : Int) 2) (putB (b : Int) 2 ++ (A ++ (B ++ r))) a 2 4 (by simp [putB_length]) (by omega) (by omega)
  have n6 := numF_at ([UInt8.ofNat k, UInt8.ofNat p] ++ putB (L : Int) 2 ++ putB (a : Int) 2) (A ++ (B ++ r)) b 2 6 (by simp [putB_length]) (by omega) (by omega)
  simp only [List.append_assoc, List.cons_append, List.nil_append] at n2 n4 n6
  have d8 : (UInt8.ofNat k :: UInt8.ofNat p :: (putB (L : Int) 2 ++ (putB (a : Int) 2 ++ (putB (b : Int) 2 ++ (A ++ (B ++ r)))))).drop 8 = A ++ (B ++ r) := by
    have := List.drop_left' (l₁ := [UInt8.ofNat k, UInt8.ofNat p] ++ putB (L : Int) 2 ++ putB (a : Int) 2 ++ putB (b : Int) 2) (l₂ := A ++ (B ++ r)) (i := 8) (by simp [putB_length])
    simpa only [List.append_assoc, List.cons_append, List.nil_append] using this
  generalize hX : (UInt8.ofNat k :: UInt8.ofNat p :: (putB (L : Int) 2 ++ (putB (a : Int) 2 ++ (putB (b : Int) 2 ++ (A ++ (B ++ r)))))) = X at *
  have hlen : X.length = 8 + w + w + r.length := by
    rw [← hX]
    simp only [List.length_append, List.length_cons, putB_length]
    omega
  have g0 : (X.getD 0 0).toNat = k := by rw [← hX]; simp; omega
  have g1 : (X.getD 1 0).toNat = p := by rw [← hX]; simp; omega
  have t1 : (X.drop 8).take w = A := by rw [d8]; exact List.take_left' hA
  have t2 : (X.drop (8 + w)).take w = B := by rw [← List.drop_drop, d8, List.drop_left' hA]; exact List.take_left' hB
  have t3 : X.drop (8 + w + w) = r := by rw [← List.drop_drop, ← List.drop_drop, d8, List.drop_left' hA, List.drop_left' hB]
  rcases hk with ⟨rfl, rfl, rfl⟩ | ⟨rfl, rfl, rfl⟩
  · rw [oneF_16 X g0 (by rw [show (2 : Int) = ((2 : Nat) : Int) from rfl, n2]; rfl) (by omega), t1, t2, t3, hl, hh, g1, show numF X 4 2 = _ from n4, show numF X 6 2 = _ from n6]
  · rw [oneF_40 X g0 (by rw [show (2 : Int) = ((2 : Nat) : Int) from rfl, n2]; rfl) (by omega), t1, t2, t3, hl, hh, g1, show numF X 4 2 = _ from n4, show numF X 6 2 = _ from n6]
theorem oneF_selrB {f : Int} (hf : f = 4 ∨ f = 6) (s : SelT) (h : SelG f (toSel s)) (r : List UInt8) : oneF (selrB s ++ r) = some (s, r) := by
  obtain ⟨p, a, b, sl, sh, u⟩ := s
  obtain ⟨⟨⟨g1, g2, g3, g4, g5, g6, g7⟩, v1, v2⟩, h2⟩ := h
  simp only [toSel] at g1 g2 g3 g4 g5 g6 g7 v1 v2 h2
  obtain ⟨p', rfl⟩ := Int.eq_ofNat_of_zero_le g5
  obtain ⟨a', rfl⟩ := Int.eq_ofNat_of_zero_le (show 0 ≤ a by omega)
  obtain ⟨b', rfl⟩ := Int.eq_ofNat_of_zero_le (show 0 ≤ b by omega)
  have ep : toB (IntKind.u8.wrap (p' : Int)) = UInt8.ofNat p' := by
    rw [IntKind.wrap_u8, toB, show ((p' : Int) % 256).toNat = p' by omega]
  have e1 := wrap_nat a' (by omega)
  have e2 := wrap_nat b' (by omega)
  have p1 := putF_nat a' 2 (by omega)
  have p2 := putF_nat b' 2 (by omega)
  have pL (n : Nat) := putF_nat n 2 (by omega)
  rcases hf with rfl | rfl
  · obtain ⟨k1, k2⟩ := addrF_adrB (a := sl) ⟨h2, g1, v1⟩
    obtain ⟨k3, k4⟩ := addrF_adrB (a := sh) ⟨by rw [← g3]; exact h2, g2, v2⟩
    have := oneF_parts 7 p' 16 a' b' 4 (adrB (toAdr sl)) (adrB (toAdr sh)) r sl sh (by omega) (by omega) (by omega) (by omega) k2 k4 k1 k3
    rw [← this]
    congr 1
    simp only [selrB, toSel, h2, if_true, ep, e1, e2, List.append_assoc, List.cons_append, List.nil_append]
    rw [show (2 : Int) = ((2 : Nat) : Int) from rfl, p1, p2, show IntKind.u64.wrap 16 = ((16 : Nat) : Int) from by rw [IntKind.wrap_u64]; rfl, pL]
    rfl
  · obtain ⟨k1, k2⟩ := addrF_adrB6 (a := sl) ⟨h2, g1, v1⟩
    obtain ⟨k3, k4⟩ := addrF_adrB6 (a := sh) ⟨by rw [← g3]; exact h2, g2, v2⟩
    have := oneF_parts 8 p' 40 a' b' 16 (adrB (toAdr sl)) (adrB (toAdr sh)) r sl sh (by omega) (by omega) (by omega) (by omega) k2 k4 k1 k3
    rw [← this]
    congr 1
    simp only [selrB, toSel, h2, show ((6 : Int) = 4) = False from by simp, if_false, ep, e1, e2, List.append_assoc, List.cons_append, List.nil_append]
    rw [show (2 : Int) = ((2 : Nat) : Int) from rfl, p1, p2, show IntKind.u64.wrap 40 = ((40 : Nat) : Int) from by rw [IntKind.wrap_u64]; rfl, pL]
    rfl
/-- Selectors with valid addresses. -/
def goodL (l : List SelT) : Prop := ∀ s ∈ l, ∃ f, (f = 4 ∨ f = 6) ∧ SelG f (toSel s)
theorem loopF_selrsB : ∀ (l acc : List SelT) (r : List UInt8), goodL l → loopF l.length acc (selrsB l ++ r) = some (acc ++ l, r)
  | [], acc, r, _ => by simp [loopF, selrsB]
  | s :: l, acc, r, h => by
    obtain ⟨f, hf, hs⟩ := h s List.mem_cons_self
    rw [List.length_cons, loopF, selrsB, List.append_assoc, oneF_selrB hf s hs]
    simp only
    rw [loopF_selrsB l (acc ++ [s]) r (fun x hx => h x (List.mem_cons_of_mem _ hx))]
    simp
theorem chkAll_good : ∀ (l : List SelT), goodL l → chkAll l = 0
  | [], _ => rfl
  | s :: l, h => by
    obtain ⟨f, hf, hs⟩ := h s List.mem_cons_self
    rw [chkAll, if_pos (chk_good hs.good), chkAll_good l (fun x hx => h x (List.mem_cons_of_mem _ hx))]
theorem parse_good (l : List SelT) (h : goodL l) (h1 : 1 ≤ l.length) (h2 : l.length ≤ 16) (x y z : UInt8) : parseF (toB (IntKind.u8.wrap l.length) :: x :: y :: z :: selrsB l) = (l, 0) := by
  have e : (toB (IntKind.u8.wrap (l.length : Int))).toNat = l.length := by
    have := toB_toNat (n := IntKind.u8.wrap (l.length : Int)) (by rw [IntKind.wrap_u8]; omega) (by rw [IntKind.wrap_u8]; omega)
    rw [IntKind.wrap_u8] at this ⊢
    omega
  have h3 := loopF_selrsB l [] [] h
  rw [List.append_nil, List.nil_append] at h3
  rw [parseF, if_neg (by simp), if_neg (by simp only [List.getD_cons_zero, e]; omega), if_neg (by simp only [List.getD_cons_zero, e]; omega)]
  simp only [List.getD_cons_zero, e, List.drop_succ_cons, List.drop_zero]
  rw [h3, endF, if_neg (by simp), if_pos (chkAll_good l h)]
theorem build_good (l : List SelT) (h : goodL l) (h1 : 1 ≤ l.length) (h2 : l.length ≤ 16) : buildF l = (toB (IntKind.u8.wrap l.length) :: 0 :: 0 :: 0 :: selrsB l, 0) := by
  rw [buildF, if_neg (by omega), if_neg (by omega), if_neg (by rw [chkAll_good l h]; simp)]
/-- What was written is read again, whatever the third byte is. -/
theorem returns_good (l : List SelT) (h : goodL l) (h1 : 1 ≤ l.length) (h2 : l.length ≤ 16) : (buildF l).2 = 0 ∧ 4 ≤ (buildF l).1.length ∧ parseF (buildF l).1 = (l, 0) ∧ ∀ v, parseF ((buildF l).1.set 2 v) = (l, 0) := by
  rw [build_good l h h1 h2]
  exact ⟨rfl, by simp, parse_good l h h1 h2 0 0 0, fun v => parse_good l h h1 h2 0 v 0⟩
theorem goodL_of {m : Int} {l : List SelT} (h : SelsG m l) : goodL l := by
  obtain ⟨f, hf, hs⟩ := h.all
  exact fun s hm => ⟨f, hf, hs s hm⟩
theorem goodL_app {a b : List SelT} (ha : goodL a) (hb : goodL b) : goodL (a ++ b) := fun s hs => (List.mem_append.1 hs).elim (ha s) (hb s)
end Go.Proofs.Ytiinlanpinanhaa.V
