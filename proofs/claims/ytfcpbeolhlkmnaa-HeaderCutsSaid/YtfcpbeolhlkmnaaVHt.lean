/- Plain laws: a header that was written is read again. -/
import Derived.Test.YtfcpbeolhlkmnaaVRb
import Derived.Test.YtfcpbeolhlkmnaaVHw
set_option linter.unusedVariables false
set_option linter.unusedSimpArgs false
namespace Go.Proofs.Ytfcpbeolhlkmnaa.V
open Go.RowKit
set_option maxHeartbeats 8000000
set_option maxRecDepth 100000
/-- The bytes of a header's parts. -/
abbrev hdP (i r m len : Nat) (a b c d : UInt8) (rest : List UInt8) : List UInt8 := putB (i : Int) 8 ++ (putB (r : Int) 8 ++ (a :: b :: c :: d :: (putB (m : Int) 4 ++ (putB (len : Int) 4 ++ rest))))
theorem numF_byte (X Y : List UInt8) (v : UInt8) (k : Nat) (hk : X.length = k) : (numF (X ++ v :: Y) k 1).1 = (v.toNat : Int) := by
  rw [num_byte (by simp only [List.length_append, List.length_cons]; omega), List.getD_eq_getElem?_getD, List.getElem?_append_right (by omega)]
  simp [hk]
theorem hdP_nums (i r m len : Nat) (a b c d : UInt8) (rest : List UInt8) (hi : i < 18446744073709551616) (hr : r < 18446744073709551616) (hm : m < 4294967296) (hl : len < 4294967296) :
    (numF (hdP i r m len a b c d rest) 0 8).1 = i ∧ (numF (hdP i r m len a b c d rest) 8 8).1 = r ∧ (numF (hdP i r m len a b c d rest) 16 1).1 = a.toNat ∧ (numF (hdP i r m len a b c d rest) 17 1).1 = b.toNat ∧ (numF (hdP i r m len a b c d rest) 18 1).1 = c.toNat ∧ (numF (hdP i r m len a b c d rest) 19 1).1 = d.toNat ∧ (numF (hdP i r m len a b c d rest) 20 4).1 = m ∧ (numF (hdP i r m len a b c d rest) 24 4).1 = len := by
  have n0 := numF_at [] (putB (r : Int) 8 ++ (a :: b :: c :: d :: (putB (m : Int) 4 ++ (putB (len : Int) 4 ++ rest)))) i 8 0 rfl (by omega) (by omega)
  have n8 := numF_at (putB (i : Int) 8) (a :: b :: c :: d :: (putB (m : Int) 4 ++ (putB (len : Int) 4 ++ rest))) r 8 8 (putB_length _ _) (by omega) (by omega)
  have n20 := numF_at (putB (i : Int) 8 ++ putB (r : Int) 8 ++ [a, b, c, d]) (putB (len : Int) 4 ++ rest) m 4 20 (by simp [putB_length]) (by omega) (by omega)
  have n24 := numF_at (putB (i : Int) 8 ++ putB (r : Int) 8 ++ [a, b, c, d] ++ putB (m : Int) 4) rest len 4 24 (by simp [putB_length]) (by omega) (by omega)
  have b16 := numF_byte (putB (i : Int) 8 ++ putB (r : Int) 8) (b :: c :: d :: (putB (m : Int) 4 ++ (putB (len : Int) 4 ++ rest))) a 16 (by simp [putB_length])
  have b17 := numF_byte (putB (i : Int) 8 ++ putB (r : Int) 8 ++ [a]) (c :: d :: (putB (m : Int) 4 ++ (putB (len : Int) 4 ++ rest))) b 17 (by simp [putB_length])
  have b18 := numF_byte (putB (i : Int) 8 ++ putB (r : Int) 8 ++ [a, b]) (d :: (putB (m : Int) 4 ++ (putB (len : Int) 4 ++ rest))) c 18 (by simp [putB_length])
  have b19 := numF_byte (putB (i : Int) 8 ++ putB (r : Int) 8 ++ [a, b, c]) (putB (m : Int) 4 ++ (putB (len : Int) 4 ++ rest)) d 19 (by simp [putB_length])
  simp only [List.append_assoc, List.cons_append, List.nil_append] at n0 n8 n20 n24 b16 b17 b18 b19
  exact ⟨congrArg Prod.fst n0, congrArg Prod.fst n8, b16, b17, b18, b19, congrArg Prod.fst n20, congrArg Prod.fst n24⟩
theorem hdP_length (i r m len : Nat) (a b c d : UInt8) (rest : List UInt8) : (hdP i r m len a b c d rest).length = 28 + rest.length := by
  simp only [List.length_append, List.length_cons, putB_length]; omega
theorem hdP_parse {i r m len : Nat} {n e f : Int} {a b c d : UInt8} {rest : List UInt8} (hc : ckF ((i : Int), (r : Int), n, e, f, (m : Int), ()) = 0) (hi : i < 18446744073709551616) (hr : r < 18446744073709551616) (hm : m < 4294967296) (hl : len < 4294967296)
    (ha : (a.toNat : Int) = n) (hb : (b.toNat : Int) / 16 = 2) (hcc : (c.toNat : Int) = e) (hd : bits .and .i64 d.toNat 56 = f) :
    parseF (hdP i r m len a b c d rest) = if len = 28 + rest.length then (((i : Int), (r : Int), n, e, f, (m : Int), ()), 0) else (hd0, 2) := by
  obtain ⟨n0, n8, n16, n17, n18, n19, n20, n24⟩ := hdP_nums i r m len a b c d rest hi hr hm hl
  have hlen := hdP_length i r m len a b c d rest
  generalize hX : hdP i r m len a b c d rest = X at *
  have ho : hdOf X = ((i : Int), (r : Int), n, e, f, (m : Int), ()) := by
    unfold hdOf
    rw [n0, n8, n16, n18, n19, n20, ha, hcc, hd]
  unfold parseF
  rw [if_neg (by omega), if_neg (by rw [n17, hb]; simp), n24, hlen, ho]
  by_cases h : len = 28 + rest.length
  · rw [if_pos h, if_neg (by omega), if_neg (by rw [hc]; simp)]
  · rw [if_neg h, if_pos (by omega)]
theorem hdP_short {i r m len : Nat} {a b c d : UInt8} {rest : List UInt8} {k : Nat} (hk : k < 28) : parseF ((hdP i r m len a b c d rest).take k) = (hd0, 1) := by
  unfold parseF
  rw [if_pos (by rw [List.length_take]; omega)]
theorem hdB_P {h : HdT} (hg : HdG h) {n : Int} (h0 : 28 ≤ n) (h1 : n < 8193) : ∃ i r m len : Nat, h = ((i : Int), (r : Int), h.2.2.1, h.2.2.2.1, h.2.2.2.2.1, (m : Int), ()) ∧ i < 18446744073709551616 ∧ r < 18446744073709551616 ∧ m < 4294967296 ∧ (len : Int) = n ∧ ∀ rest, hdB h n ++ rest = hdP i r m len (toB h.2.2.1) (toB 32) (toB h.2.2.2.1) (toB h.2.2.2.2.1) rest := by
  obtain ⟨i, r, n', e, f, m, ⟨⟩⟩ := h
  obtain ⟨ck, i0, i1, r0, r1, hn, e0, e1, hf, m0, m1⟩ := hg
  dsimp only at *
  obtain ⟨i, rfl⟩ := Int.eq_ofNat_of_zero_le i0
  obtain ⟨r, rfl⟩ := Int.eq_ofNat_of_zero_le r0
  obtain ⟨m, rfl⟩ := Int.eq_ofNat_of_zero_le m0
  obtain ⟨n, rfl⟩ := Int.eq_ofNat_of_zero_le (show 0 ≤ n by omega)
  refine ⟨i, r, m, n, rfl, by omega, by omega, by omega, rfl, fun rest => ?_⟩
  unfold hdB hdP
  dsimp only
  rw [wrap_nat m (by omega), wrap_nat n (by omega), show (8 : Int) = ((8 : Nat) : Int) from rfl, show (4 : Int) = ((4 : Nat) : Int) from rfl, putF_nat i 8 (by omega), putF_nat r 8 (by omega), putF_nat m 4 (by omega), putF_nat n 4 (by omega)]
  rw [show IntKind.u8.wrap n' = n' from by rw [IntKind.wrap_u8]; omega, show IntKind.u8.wrap e = e from by rw [IntKind.wrap_u8]; omega, show IntKind.u8.wrap f = f from by rw [IntKind.wrap_u8]; omega]
  simp only [List.append_assoc, List.cons_append, List.nil_append]
theorem toB_int {n : Int} (h0 : 0 ≤ n) (h1 : n < 256) : ((toB n).toNat : Int) = n := by
  have := toB_toNat h0 (by omega)
  omega
/-- What was written, with bytes behind it. -/
theorem hd_read {h : HdT} (hg : HdG h) {n : Int} (h0 : 28 ≤ n) (h1 : n < 8193) (rest : List UInt8) : parseF (hdB h n ++ rest) = if n = 28 + rest.length then (h, 0) else (hd0, 2) := by
  obtain ⟨i, r, m, len, he, hi, hr, hm, hl, hp⟩ := hdB_P hg h0 h1
  obtain ⟨ck, i0, i1, r0, r1, hn, e0, e1, hf, m0, m1⟩ := hg
  rw [hp rest]
  have ef : bits .and .i64 ((toB h.2.2.2.2.1).toNat : Int) 56 = h.2.2.2.2.1 := by
    rcases hf with hf | hf | hf | hf <;> rw [hf] <;> kernel_rfl
  rw [hdP_parse (n := h.2.2.1) (e := h.2.2.2.1) (f := h.2.2.2.2.1) (by rw [← he]; exact ck) hi hr hm (by omega) (toB_int (by omega) (by omega)) (by kernel_rfl) (toB_int (by omega) (by omega)) ef, ← he]
  by_cases hh : n = 28 + rest.length
  · rw [if_pos hh, if_pos (by omega)]
  · rw [if_neg hh, if_neg (by omega)]
theorem hdP_set17 (i r m len : Nat) (a b c d v : UInt8) (rest : List UInt8) : (hdP i r m len a b c d rest).set 17 v = hdP i r m len a v c d rest := by
  unfold hdP
  rw [List.set_append_right _ _ (by rw [putB_length]; omega), putB_length, List.set_append_right _ _ (by rw [putB_length]; omega), putB_length]
  rfl
theorem hdP_set19 (i r m len : Nat) (a b c d v : UInt8) (rest : List UInt8) : (hdP i r m len a b c d rest).set 19 v = hdP i r m len a b c v rest := by
  unfold hdP
  rw [List.set_append_right _ _ (by rw [putB_length]; omega), putB_length, List.set_append_right _ _ (by rw [putB_length]; omega), putB_length]
  rfl
theorem hdP_get17 (i r m len : Nat) (a b c d : UInt8) (rest : List UInt8) : (hdP i r m len a b c d rest).getD 17 0 = b := by
  unfold hdP
  rw [List.getD_eq_getElem?_getD, List.getElem?_append_right (by rw [putB_length]; omega), putB_length, List.getElem?_append_right (by rw [putB_length]; omega), putB_length]
  rfl
theorem hdP_get19 (i r m len : Nat) (a b c d : UInt8) (rest : List UInt8) : (hdP i r m len a b c d rest).getD 19 0 = d := by
  unfold hdP
  rw [List.getD_eq_getElem?_getD, List.getElem?_append_right (by rw [putB_length]; omega), putB_length, List.getElem?_append_right (by rw [putB_length]; omega), putB_length]
  rfl
theorem minor_bits : ∀ k : _root_.Fin 256, (((toB (bits .or .u8 ((toB 32).toNat : Int) (bits .and .u8 ((k : Nat) : Int) 15))).toNat : Int) / 16 = 2) := by decide +kernel
theorem flag_bits : ∀ k : _root_.Fin 256, ∀ f ∈ [(0 : Int), 8, 32, 40], bits .and .i64 ((toB (bits .or .u8 ((toB f).toNat : Int) (bits .andNot .u8 ((k : Nat) : Int) 56))).toNat : Int) 56 = f := by decide +kernel
theorem minor_ok {m : Int} (h0 : 0 ≤ m) (h1 : m ≤ 255) : (((toB (bits .or .u8 ((toB 32).toNat : Int) (bits .and .u8 m 15))).toNat : Int) / 16 = 2) := by
  obtain ⟨m, rfl⟩ := Int.eq_ofNat_of_zero_le h0
  exact minor_bits ⟨m, by omega⟩
theorem flag_ok {m f : Int} (h0 : 0 ≤ m) (h1 : m ≤ 255) (hf : f = 8 ∨ f = 32 ∨ f = 40 ∨ f = 0) : bits .and .i64 ((toB (bits .or .u8 ((toB f).toNat : Int) (bits .andNot .u8 m 56))).toNat : Int) 56 = f := by
  obtain ⟨m, rfl⟩ := Int.eq_ofNat_of_zero_le h0
  exact flag_bits ⟨m, by omega⟩ f (by rcases hf with rfl | rfl | rfl | rfl <;> decide)
/-- The same with other bits that do not count. -/
theorem hd_read2 {h : HdT} (hg : HdG h) {n : Int} (h0 : 28 ≤ n) (h1 : n < 8193) (rest : List UInt8) (hn : n = 28 + rest.length) {v f : Int} (v0 : 0 ≤ v) (v1 : v ≤ 255) (f0 : 0 ≤ f) (f1 : f ≤ 255) {X : List UInt8} (hX : X = hdB h n ++ rest) :
    parseF (setAt (setAt X 17 0 fun _ => toB (bits .or .u8 ((X.getD (Int.toNat 17) 0).toNat : Int) (bits .and .u8 v 15))) 19 0 fun _ => toB (bits .or .u8 (((setAt X 17 0 fun _ => toB (bits .or .u8 ((X.getD (Int.toNat 17) 0).toNat : Int) (bits .and .u8 v 15))).getD (Int.toNat 19) 0).toNat : Int) (bits .andNot .u8 f 56))) = (h, 0) := by
  obtain ⟨i, r, m, len, he, hi, hr, hm, hl, hp⟩ := hdB_P hg h0 h1
  obtain ⟨ck, i0, i1, r0, r1, hn', e0, e1, hf, m0, m1⟩ := hg
  rw [hp rest] at hX
  subst hX
  simp only [setAt, show Int.toNat 17 = 17 from rfl, show Int.toNat 19 = 19 from rfl, hdP_get17, hdP_set17, hdP_get19, hdP_set19]
  rw [hdP_parse (n := h.2.2.1) (e := h.2.2.2.1) (f := h.2.2.2.2.1) (by rw [← he]; exact ck) hi hr hm (by omega) (toB_int (by omega) (by omega)) (minor_ok v0 v1) (toB_int (by omega) (by omega)) (flag_ok f0 f1 hf), ← he, if_pos (by omega)]
theorem hd_build {h : HdT} (hg : HdG h) {n : Int} (h0 : 28 ≤ n) (h1 : n < 8193) {b : List UInt8} {e : Int} {P : Prop} (hb : (b, e) = buildF h n ∧ P) : e = 0 ∧ b.length = 28 ∧ b = hdB h n := by
  have := hb.1
  rw [buildF, if_neg (by rw [hg.ck]; simp), if_neg (by omega)] at this
  simp only [Prod.mk.injEq] at this
  refine ⟨this.2, ?_, this.1⟩
  obtain ⟨i, r, m, len, he, hi, hr, hm, hl, hp⟩ := hdB_P hg h0 h1
  have := congrArg List.length (hp [])
  rw [hdP_length, List.append_nil] at this
  rw [show b = hdB h n from ‹b = hdB h n ∧ e = 0›.1, this, List.length_nil]
end Go.Proofs.Ytfcpbeolhlkmnaa.V
