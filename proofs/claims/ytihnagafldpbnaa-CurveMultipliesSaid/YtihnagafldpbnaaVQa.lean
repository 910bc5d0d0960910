/- ref14: numbers modulo 2^255 - 19 in digits of 16 bits (pure). -/
import Derived.Test.YtihnagafldpbnaaVUf
import Derived.Test.YtihnagafldpbnaaVUi
set_option linter.unusedVariables false
set_option linter.unusedSimpArgs false
namespace Go.Proofs.Ytihnagafldpbnaa.V
open Go.RowKit
set_option maxHeartbeats 80000000
set_option maxRecDepth 100000
abbrev fE : Shp := .st [.int .u64, .int .u64, .int .u64, .int .u64, .int .u64, .int .u64, .int .u64, .int .u64, .int .u64, .int .u64, .int .u64, .int .u64, .int .u64, .int .u64, .int .u64, .int .u64]
abbrev FT : Type := Int × Int × Int × Int × Int × Int × Int × Int × Int × Int × Int × Int × Int × Int × Int × Int × Unit
def ls16 (a : FT) : List Int := [a.1, a.2.1, a.2.2.1, a.2.2.2.1, a.2.2.2.2.1, a.2.2.2.2.2.1, a.2.2.2.2.2.2.1, a.2.2.2.2.2.2.2.1, a.2.2.2.2.2.2.2.2.1, a.2.2.2.2.2.2.2.2.2.1, a.2.2.2.2.2.2.2.2.2.2.1, a.2.2.2.2.2.2.2.2.2.2.2.1, a.2.2.2.2.2.2.2.2.2.2.2.2.1, a.2.2.2.2.2.2.2.2.2.2.2.2.2.1, a.2.2.2.2.2.2.2.2.2.2.2.2.2.2.1, a.2.2.2.2.2.2.2.2.2.2.2.2.2.2.2.1]
def v16 : List Int → Int
 | [] => 0
 | a :: l => a + 65536 * v16 l
def valF (a : FT) : Int := v16 (ls16 a)
structure LimL (m : Int) (l : List Int) : Prop where
 all : ∀ x ∈ l, 0 ≤ x ∧ x < m
theorem LimL.tl {m x : Int} {l : List Int} (h : LimL m (x :: l)) : LimL m l := ⟨fun y hy => h.all y (List.mem_cons_of_mem _ hy)⟩
theorem LimL.hd {m x : Int} {l : List Int} (h : LimL m (x :: l)) : 0 ≤ x ∧ x < m := h.all x List.mem_cons_self
theorem LimL.cons {m x : Int} {l : List Int} (hx : 0 ≤ x ∧ x < m) (h : LimL m l) : LimL m (x :: l) := ⟨fun y hy => by
 rcases List.mem_cons.1 hy with rfl | hy
 ·exact hx
 ·exact h.all y hy⟩
theorem LimL.nil {m : Int} : LimL m [] := ⟨fun y hy => by cases hy⟩
theorem LimL.up {m n : Int} {l : List Int} (h : LimL m l) (hm : m ≤ n) : LimL n l := ⟨fun y hy => by have := h.all y hy; omega⟩
abbrev LimF (m : Int) (a : FT) : Prop := LimL m (ls16 a)
theorem limF_iff {m : Int} {a0 a1 a2 a3 a4 a5 a6 a7 a8 a9 a10 a11 a12 a13 a14 a15 : Int} : LimF m (a0, a1, a2, a3, a4, a5, a6, a7, a8, a9, a10, a11, a12, a13, a14, a15, ()) ↔ (0 ≤ a0 ∧ a0 < m) ∧ (0 ≤ a1 ∧ a1 < m) ∧ (0 ≤ a2 ∧ a2 < m) ∧ (0 ≤ a3 ∧ a3 < m) ∧ (0 ≤ a4 ∧ a4 < m) ∧ (0 ≤ a5 ∧ a5 < m) ∧ (0 ≤ a6 ∧ a6 < m) ∧ (0 ≤ a7 ∧ a7 < m) ∧ (0 ≤ a8 ∧ a8 < m) ∧ (0 ≤ a9 ∧ a9 < m) ∧ (0 ≤ a10 ∧ a10 < m) ∧ (0 ≤ a11 ∧ a11 < m) ∧ (0 ≤ a12 ∧ a12 < m) ∧ (0 ≤ a13 ∧ a13 < m) ∧ (0 ≤ a14 ∧ a14 < m) ∧ (0 ≤ a15 ∧ a15 < m) := by
 constructor
 ·intro h
  have h := h.all
  simp only [ls16, List.mem_cons, List.not_mem_nil, or_false, forall_eq_or_imp, forall_eq] at h
  exact h
 ·intro h
  refine ⟨?_⟩
  simp only [ls16, List.mem_cons, List.not_mem_nil, or_false, forall_eq_or_imp, forall_eq]
  exact h
theorem valF_eq (a0 a1 a2 a3 a4 a5 a6 a7 a8 a9 a10 a11 a12 a13 a14 a15 : Int) : valF (a0, a1, a2, a3, a4, a5, a6, a7, a8, a9, a10, a11, a12, a13, a14, a15, ()) = a0 + 65536 * a1 + 4294967296 * a2 + 281474976710656 * a3 + 18446744073709551616 * a4 + 1208925819614629174706176 * a5 + 79228162514264337593543950336 * a6 + 5192296858534827628530496329220096 * a7 + 340282366920938463463374607431768211456 * a8 + 22300745198530623141535718272648361505980416 * a9 + 1461501637330902918203684832716283019655932542976 * a10 + 95780971304118053647396689196894323976171195136475136 * a11 + 6277101735386680763835789423207666416102355444464034512896 * a12 + 411376139330301510538742295639337626245683966408394965837152256 * a13 + 26959946667150639794667015087019630673637144422540572481103610249216 * a14 + 1766847064778384329583297500742918515827483896875618958121606201292619776 * a15 := by
 simp only [valF, ls16, v16]
 omega
def carN : Int → List Int → List Int
 | _, [] => []
 | u, a :: l => (u + a) % 65536 :: carN ((u + a) / 65536) l
def carU : Int → List Int → Int
 | u, [] => u
 | u, a :: l => carU ((u + a) / 65536) l
def carNr : Int → List Int → List Int
 | _, [] => []
 | u, a :: l => bits .and .u64 (IntKind.u64.wrap (u + a)) 65535 :: carNr ((IntKind.u64.wrap (u + a)).fdiv (2 ^ min (Int.toNat 16) IntKind.u64.bits)) l
def carUr : Int → List Int → Int
 | u, [] => u
 | u, a :: l => carUr ((IntKind.u64.wrap (u + a)).fdiv (2 ^ min (Int.toNat 16) IntKind.u64.bits)) l
theorem and16 {x : Int} (h : 0 ≤ x ∧ x < 18446744073709551616) : bits .and .u64 x 65535 = x % 65536 := by
 obtain ⟨n, rfl⟩ := Int.eq_ofNat_of_zero_le h.1
 have e := bits_and_u64_nat n 65535 (by omega) (by omega)
 rw [show n &&& 65535 = n % 65536 from Nat.and_two_pow_sub_one_eq_mod n 16] at e
 exact e
theorem shr16 (a : Int) : a.fdiv (2 ^ min (Int.toNat 16) IntKind.u64.bits) = a / 65536 := by
 show a.fdiv (2 ^ 16) = _
 exact Int.fdiv_eq_ediv_of_nonneg a (by decide)
theorem carNr_eq {l : List Int} {u : Int} (hu : 0 ≤ u ∧ u < 562949953421312) (h : LimL 9223372036854775808 l) : carNr u l = carN u l ∧ carUr u l = carU u l := by
 induction l generalizing u with
 | nil => exact ⟨rfl, rfl⟩
 | cons a l ih =>
   have ha := h.hd
   simp only [carNr, carUr, carN, carU]
   rw [shr16, wru (by omega), and16 (by omega)]
   obtain ⟨e1, e2⟩ := ih (u := (u + a) / 65536) (by omega) h.tl
   rw [e1, e2]
   exact ⟨rfl, rfl⟩
theorem carN_lim (l : List Int) (u : Int) : LimL 65536 (carN u l) := by
 induction l generalizing u with
 | nil => exact LimL.nil
 | cons a l ih => exact LimL.cons (by omega) (ih _)
theorem carU_lim {l : List Int} {u : Int} (hu : 0 ≤ u ∧ u < 562949953421312) (h : LimL 9223372036854775808 l) : 0 ≤ carU u l ∧ carU u l < 562949953421312 := by
 induction l generalizing u with
 | nil => exact hu
 | cons a l ih =>
   have ha := h.hd
   exact ih (by omega) h.tl
theorem carN_len (l : List Int) (u : Int) : (carN u l).length = l.length := by
 induction l generalizing u with
 | nil => rfl
 | cons a l ih => simp only [carN, List.length_cons, ih]
theorem carN_val (l : List Int) (u : Int) : v16 (carN u l) + 65536 ^ l.length * carU u l = u + v16 l := by
 induction l generalizing u with
 | nil => simp [carN, carU, v16]
 | cons a l ih =>
   have := ih ((u + a) / 65536)
   simp only [carN, carU, v16, List.length_cons, Int.pow_succ]
   rw [Int.mul_comm (65536 ^ l.length) 65536, Int.mul_assoc]
   omega
theorem v16_lim {l : List Int} (h : LimL 65536 l) : 0 ≤ v16 l ∧ v16 l < 65536 ^ l.length := by
 induction l with
 | nil => simp [v16]
 | cons a l ih =>
   have ha := h.hd
   have := ih h.tl
   simp only [v16, List.length_cons, Int.pow_succ]
   rw [Int.mul_comm (65536 ^ l.length) 65536]
   omega
theorem v16_nn {m : Int} {l : List Int} (h : LimL m l) : 0 ≤ v16 l := by
 induction l with
 | nil => simp [v16]
 | cons a l ih =>
   have ha := h.hd
   have := ih h.tl
   simp only [v16]
   omega
structure CarI (k : Int) (l : List Int) (v : Int) : Prop where
 len : l.length = 16
 cg : Cg (v16 l) v
 lim : LimL 9223372036854775808 l
 k1 : 1 ≤ k → v16 l < 115792089237316195423570985008687907853269984665640564039457584007913129639936 + 72057594037927936
 k2 : 2 ≤ k → v16 l < 115792089237316195423570985008687907853269984665640564039457584007913129639936
 k3 : 3 ≤ k → LimL 65536 l
def addH (u : Int) : List Int → List Int
 | [] => []
 | a :: l => (a + 38 * u) :: l
theorem addH_len (u : Int) (l : List Int) : (addH u l).length = l.length := by cases l <;> rfl
theorem addH_val (u a : Int) (l : List Int) : v16 (addH u (a :: l)) = v16 (a :: l) + 38 * u := by
 simp only [addH, v16]
 omega
theorem car_step {k : Int} {l : List Int} {v : Int} (h : CarI k l v) (h0 : 0 ≤ k) (h3 : k < 3) : CarI (k + 1) (addH (carU 0 l) (carN 0 l)) v := by
 have hl := h.len
 have hlim := h.lim
 have hU := carU_lim (u := 0) (by decide) hlim
 have hN := carN_lim l 0
 have hv := carN_val l 0
 have hb := v16_lim hN
 have hn := v16_nn hlim
 rw [carN_len] at hb
 rw [hl] at hv hb
 rw [show (65536 : Int) ^ 16 = 115792089237316195423570985008687907853269984665640564039457584007913129639936 from by decide] at hv hb
 have hlen : (carN 0 l).length = 16 := by rw [carN_len, hl]
 obtain ⟨c, N, hcN⟩ : ∃ c N, carN 0 l = c :: N := by
  cases hc : carN 0 l with
  | nil => rw [hc] at hlen; cases hlen
  | cons c N => exact ⟨c, N, rfl⟩
 have hva := addH_val (carU 0 l) c N
 rw [← hcN] at hva
 have h1 := h.k1
 have h2 := h.k2
 generalize hu : carU 0 l = u at *
 refine ⟨by rw [addH_len, hlen], ?_, ?_, ?_, ?_, ?_⟩
 ·rw [hva]
  refine Cg.trans ?_ h.cg
  exact ⟨-(2 * u), by omega⟩
 ·rw [hcN] at hN ⊢
  have := hN.hd
  exact LimL.cons (by omega) (hN.tl.up (by decide))
 ·intro _
  omega
 ·intro hk
  have := h1 (by omega)
  omega
 ·intro hk
  have := h2 (by omega)
  have hu0 : u = 0 := by omega
  subst hu0
  rw [hcN] at hN ⊢
  have := hN.hd
  exact LimL.cons (by omega) hN.tl
def addHr (u : Int) : List Int → List Int
 | [] => []
 | a :: l => IntKind.u64.wrap (a + IntKind.u64.wrap (38 * u)) :: l
theorem car_stepr {k kq : Int} {l : List Int} {v : Int} (h : CarI k l v) (h0 : 0 ≤ k) (h3 : k < 3) (hq : kq = k + 1) : CarI kq (addHr (carUr 0 l) (carNr 0 l)) v := by
 have hc := car_step h h0 h3
 obtain ⟨r1, r2⟩ := carNr_eq (u := 0) (by decide) h.lim
 have hU := carU_lim (u := 0) (by decide) h.lim
 have hN := carN_lim l 0
 rw [hq, r1, r2]
 cases hl : carN 0 l with
 | nil => rw [hl] at hc; exact hc
 | cons a N =>
   rw [hl] at hc hN
   have := hN.hd
   simp only [addH] at hc
   simp only [addHr]
   rw [wru (x := 38 * carU 0 l) (by omega), wru (by omega)]
   exact hc
def cvS (a b : List Int) (i j : Int) : Int := if j ≤ i then a.getD j.toNat 0 * b.getD (i - j).toNat 0 else 38 * a.getD j.toNat 0 * b.getD (16 + i - j).toNat 0
def cvN (a b : List Int) (i : Int) : Nat → Int
 | 0 => 0
 | j + 1 => cvN a b i j + cvS a b i j
theorem getD_lim {m : Int} {l : List Int} (h : LimL m l) (hm : 0 < m) (n : Nat) : 0 ≤ l.getD n 0 ∧ l.getD n 0 < m := by
 rw [List.getD_eq_getElem?_getD]
 cases hn : l[n]? with
 | none => exact ⟨Int.le_refl 0, hm⟩
 | some x => exact h.all x (List.mem_of_getElem? hn)
theorem mul16 {x y : Int} (hx : 0 ≤ x ∧ x < 65536) (hy : 0 ≤ y ∧ y < 65536) : 0 ≤ x * y ∧ x * y ≤ 4294836225 := by
 refine ⟨Int.mul_nonneg hx.1 hy.1, ?_⟩
 have h1 : x * y ≤ 65535 * y := Int.mul_le_mul_of_nonneg_right (by omega) hy.1
 omega
theorem cvS_lim {a b : List Int} (ha : LimL 65536 a) (hb : LimL 65536 b) (i j : Int) : 0 ≤ cvS a b i j ∧ cvS a b i j ≤ 163203776550 := by
 unfold cvS
 have hx := getD_lim ha (by decide) j.toNat
 split
 ·have := mul16 hx (getD_lim hb (by decide) (i - j).toNat)
  omega
 ·have := mul16 hx (getD_lim hb (by decide) (16 + i - j).toNat)
  rw [Int.mul_assoc]
  omega
theorem cvN_lim {a b : List Int} (ha : LimL 65536 a) (hb : LimL 65536 b) (i : Int) (n : Nat) : 0 ≤ cvN a b i n ∧ cvN a b i n ≤ 163203776550 * n := by
 induction n with
 | zero => exact ⟨Int.le_refl 0, by simp [cvN]⟩
 | succ n ih =>
   have := cvS_lim ha hb i n
   simp only [cvN, Int.natCast_add, Int.natCast_one]
   omega
theorem mul_ring (a0 a1 a2 a3 a4 a5 a6 a7 a8 a9 a10 a11 a12 a13 a14 a15 b0 b1 b2 b3 b4 b5 b6 b7 b8 b9 b10 b11 b12 b13 b14 b15 : Int) : (a0 + 65536 * a1 + 4294967296 * a2 + 281474976710656 * a3 + 18446744073709551616 * a4 + 1208925819614629174706176 * a5 + 79228162514264337593543950336 * a6 + 5192296858534827628530496329220096 * a7 + 340282366920938463463374607431768211456 * a8 + 22300745198530623141535718272648361505980416 * a9 + 1461501637330902918203684832716283019655932542976 * a10 + 95780971304118053647396689196894323976171195136475136 * a11 + 6277101735386680763835789423207666416102355444464034512896 * a12 + 411376139330301510538742295639337626245683966408394965837152256 * a13 + 26959946667150639794667015087019630673637144422540572481103610249216 * a14 + 1766847064778384329583297500742918515827483896875618958121606201292619776 * a15) * (b0 + 65536 * b1 + 4294967296 * b2 + 281474976710656 * b3 + 18446744073709551616 * b4 + 1208925819614629174706176 * b5 + 79228162514264337593543950336 * b6 + 5192296858534827628530496329220096 * b7 + 340282366920938463463374607431768211456 * b8 + 22300745198530623141535718272648361505980416 * b9 + 1461501637330902918203684832716283019655932542976 * b10 + 95780971304118053647396689196894323976171195136475136 * b11 + 6277101735386680763835789423207666416102355444464034512896 * b12 + 411376139330301510538742295639337626245683966408394965837152256 * b13 + 26959946667150639794667015087019630673637144422540572481103610249216 * b14 + 1766847064778384329583297500742918515827483896875618958121606201292619776 * b15) = (a0 * b0 + 38 * a1 * b15 + 38 * a2 * b14 + 38 * a3 * b13 + 38 * a4 * b12 + 38 * a5 * b11 + 38 * a6 * b10 + 38 * a7 * b9 + 38 * a8 * b8 + 38 * a9 * b7 + 38 * a10 * b6 + 38 * a11 * b5 + 38 * a12 * b4 + 38 * a13 * b3 + 38 * a14 * b2 + 38 * a15 * b1) + 65536 * (a0 * b1 + a1 * b0 + 38 * a2 * b15 + 38 * a3 * b14 + 38 * a4 * b13 + 38 * a5 * b12 + 38 * a6 * b11 + 38 * a7 * b10 + 38 * a8 * b9 + 38 * a9 * b8 + 38 * a10 * b7 + 38 * a11 * b6 + 38 * a12 * b5 + 38 * a13 * b4 + 38 * a14 * b3 + 38 * a15 * b2) + 4294967296 * (a0 * b2 + a1 * b1 + a2 * b0 + 38 * a3 * b15 + 38 * a4 * b14 + 38 * a5 * b13 + 38 * a6 * b12 + 38 * a7 * b11 + 38 * a8 * b10 + 38 * a9 * b9 + 38 * a10 * b8 + 38 * a11 * b7 + 38 * a12 * b6 + 38 * a13 * b5 + 38 * a14 * b4 + 38 * a15 * b3) + 281474976710656 * (a0 * b3 + a1 * b2 + a2 * b1 + a3 * b0 + 38 * a4 * b15 + 38 * a5 * b14 + 38 * a6 * b13 + 38 * a7 * b12 + 38 * a8 * b11 + 38 * a9 * b10 + 38 * a10 * b9 + 38 * a11 * b8 + 38 * a12 * b7 + 38 * a13 * b6 + 38 * a14 * b5 + 38 * a15 * b4) + 18446744073709551616 * (a0 * b4 + a1 * b3 + a2 * b2 + a3 * b1 + a4 * b0 + 38 * a5 * b15 + 38 * a6 * b14 + 38 * a7 * b13 + 38 * a8 * b12 + 38 * a9 * b11 + 38 * a10 * b10 + 38 * a11 * b9 + 38 * a12 * b8 + 38 * a13 * b7 + 38 * a14 * b6 + 38 * a15 * b5) + 1208925819614629174706176 * (a0 * b5 + a1 * b4 + a2 * b3 + a3 * b2 + a4 * b1 + a5 * b0 + 38 * a6 * b15 + 38 * a7 * b14 + 38 * a8 * b13 + 38 * a9 * b12 + 38 * a10 * b11 + 38 * a11 * b10 + 38 * a12 * b9 + 38 * a13 * b8 + 38 * a14 * b7 + 38 * a15 * b6) + 79228162514264337593543950336 * (a0 * b6 + a1 * b5 + a2 * b4 + a3 * b3 + a4 * b2 + a5 * b1 + a6 * b0 + 38 * a7 * b15 + 38 * a8 * b14 + 38 * a9 * b13 + 38 * a10 * b12 + 38 * a11 * b11 + 38 * a12 * b10 + 38 * a13 * b9 + 38 * a14 * b8 + 38 * a15 * b7) + 5192296858534827628530496329220096 * (a0 * b7 + a1 * b6 + a2 * b5 + a3 * b4 + a4 * b3 + a5 * b2 + a6 * b1 + a7 * b0 + 38 * a8 * b15 + 38 * a9 * b14 + 38 * a10 * b13 + 38 * a11 * b12 + 38 * a12 * b11 + 38 * a13 * b10 + 38 * a14 * b9 + 38 * a15 * b8) + 340282366920938463463374607431768211456 * (a0 * b8 + a1 * b7 + a2 * b6 + a3 * b5 + a4 * b4 + a5 * b3 + a6 * b2 + a7 * b1 + a8 * b0 + 38 * a9 * b15 + 38 * a10 * b14 + 38 * a11 * b13 + 38 * a12 * b12 + 38 * a13 * b11 + 38 * a14 * b10 + 38 * a15 * b9) + 22300745198530623141535718272648361505980416 * (a0 * b9 + a1 * b8 + a2 * b7 + a3 * b6 + a4 * b5 + a5 * b4 + a6 * b3 + a7 * b2 + a8 * b1 + a9 * b0 + 38 * a10 * b15 + 38 * a11 * b14 + 38 * a12 * b13 + 38 * a13 * b12 + 38 * a14 * b11 + 38 * a15 * b10) + 1461501637330902918203684832716283019655932542976 * (a0 * b10 + a1 * b9 + a2 * b8 + a3 * b7 + a4 * b6 + a5 * b5 + a6 * b4 + a7 * b3 + a8 * b2 + a9 * b1 + a10 * b0 + 38 * a11 * b15 + 38 * a12 * b14 + 38 * a13 * b13 + 38 * a14 * b12 + 38 * a15 * b11) + 95780971304118053647396689196894323976171195136475136 * (a0 * b11 + a1 * b10 + a2 * b9 + a3 * b8 + a4 * b7 + a5 * b6 + a6 * b5 + a7 * b4 + a8 * b3 + a9 * b2 + a10 * b1 + a11 * b0 + 38 * a12 * b15 + 38 * a13 * b14 + 38 * a14 * b13 + 38 * a15 * b12) + 6277101735386680763835789423207666416102355444464034512896 * (a0 * b12 + a1 * b11 + a2 * b10 + a3 * b9 + a4 * b8 + a5 * b7 + a6 * b6 + a7 * b5 + a8 * b4 + a9 * b3 + a10 * b2 + a11 * b1 + a12 * b0 + 38 * a13 * b15 + 38 * a14 * b14 + 38 * a15 * b13) + 411376139330301510538742295639337626245683966408394965837152256 * (a0 * b13 + a1 * b12 + a2 * b11 + a3 * b10 + a4 * b9 + a5 * b8 + a6 * b7 + a7 * b6 + a8 * b5 + a9 * b4 + a10 * b3 + a11 * b2 + a12 * b1 + a13 * b0 + 38 * a14 * b15 + 38 * a15 * b14) + 26959946667150639794667015087019630673637144422540572481103610249216 * (a0 * b14 + a1 * b13 + a2 * b12 + a3 * b11 + a4 * b10 + a5 * b9 + a6 * b8 + a7 * b7 + a8 * b6 + a9 * b5 + a10 * b4 + a11 * b3 + a12 * b2 + a13 * b1 + a14 * b0 + 38 * a15 * b15) + 1766847064778384329583297500742918515827483896875618958121606201292619776 * (a0 * b15 + a1 * b14 + a2 * b13 + a3 * b12 + a4 * b11 + a5 * b10 + a6 * b9 + a7 * b8 + a8 * b7 + a9 * b6 + a10 * b5 + a11 * b4 + a12 * b3 + a13 * b2 + a14 * b1 + a15 * b0) + 115792089237316195423570985008687907853269984665640564039457584007913129639898 * (1 * (a1 * b15 + a2 * b14 + a3 * b13 + a4 * b12 + a5 * b11 + a6 * b10 + a7 * b9 + a8 * b8 + a9 * b7 + a10 * b6 + a11 * b5 + a12 * b4 + a13 * b3 + a14 * b2 + a15 * b1) + 65536 * (a2 * b15 + a3 * b14 + a4 * b13 + a5 * b12 + a6 * b11 + a7 * b10 + a8 * b9 + a9 * b8 + a10 * b7 + a11 * b6 + a12 * b5 + a13 * b4 + a14 * b3 + a15 * b2) + 4294967296 * (a3 * b15 + a4 * b14 + a5 * b13 + a6 * b12 + a7 * b11 + a8 * b10 + a9 * b9 + a10 * b8 + a11 * b7 + a12 * b6 + a13 * b5 + a14 * b4 + a15 * b3) + 281474976710656 * (a4 * b15 + a5 * b14 + a6 * b13 + a7 * b12 + a8 * b11 + a9 * b10 + a10 * b9 + a11 * b8 + a12 * b7 + a13 * b6 + a14 * b5 + a15 * b4) + 18446744073709551616 * (a5 * b15 + a6 * b14 + a7 * b13 + a8 * b12 + a9 * b11 + a10 * b10 + a11 * b9 + a12 * b8 + a13 * b7 + a14 * b6 + a15 * b5) + 1208925819614629174706176 * (a6 * b15 + a7 * b14 + a8 * b13 + a9 * b12 + a10 * b11 + a11 * b10 + a12 * b9 + a13 * b8 + a14 * b7 + a15 * b6) + 79228162514264337593543950336 * (a7 * b15 + a8 * b14 + a9 * b13 + a10 * b12 + a11 * b11 + a12 * b10 + a13 * b9 + a14 * b8 + a15 * b7) + 5192296858534827628530496329220096 * (a8 * b15 + a9 * b14 + a10 * b13 + a11 * b12 + a12 * b11 + a13 * b10 + a14 * b9 + a15 * b8) + 340282366920938463463374607431768211456 * (a9 * b15 + a10 * b14 + a11 * b13 + a12 * b12 + a13 * b11 + a14 * b10 + a15 * b9) + 22300745198530623141535718272648361505980416 * (a10 * b15 + a11 * b14 + a12 * b13 + a13 * b12 + a14 * b11 + a15 * b10) + 1461501637330902918203684832716283019655932542976 * (a11 * b15 + a12 * b14 + a13 * b13 + a14 * b12 + a15 * b11) + 95780971304118053647396689196894323976171195136475136 * (a12 * b15 + a13 * b14 + a14 * b13 + a15 * b12) + 6277101735386680763835789423207666416102355444464034512896 * (a13 * b15 + a14 * b14 + a15 * b13) + 411376139330301510538742295639337626245683966408394965837152256 * (a14 * b15 + a15 * b14) + 26959946667150639794667015087019630673637144422540572481103610249216 * (a15 * b15)) := by grind
theorem cv_0 (a0 a1 a2 a3 a4 a5 a6 a7 a8 a9 a10 a11 a12 a13 a14 a15 b0 b1 b2 b3 b4 b5 b6 b7 b8 b9 b10 b11 b12 b13 b14 b15 : Int) : cvN [a0, a1, a2, a3, a4, a5, a6, a7, a8, a9, a10, a11, a12, a13, a14, a15] [b0, b1, b2, b3, b4, b5, b6, b7, b8, b9, b10, b11, b12, b13, b14, b15] 0 16 = a0 * b0 + 38 * a1 * b15 + 38 * a2 * b14 + 38 * a3 * b13 + 38 * a4 * b12 + 38 * a5 * b11 + 38 * a6 * b10 + 38 * a7 * b9 + 38 * a8 * b8 + 38 * a9 * b7 + 38 * a10 * b6 + 38 * a11 * b5 + 38 * a12 * b4 + 38 * a13 * b3 + 38 * a14 * b2 + 38 * a15 * b1 := by
 simp [cvN, cvS]
theorem cv_1 (a0 a1 a2 a3 a4 a5 a6 a7 a8 a9 a10 a11 a12 a13 a14 a15 b0 b1 b2 b3 b4 b5 b6 b7 b8 b9 b10 b11 b12 b13 b14 b15 : Int) : cvN [a0, a1, a2, a3, a4, a5, a6, a7, a8, a9, a10, a11, a12, a13, a14, a15] [b0, b1, b2, b3, b4, b5, b6, b7, b8, b9, b10, b11, b12, b13, b14, b15] 1 16 = a0 * b1 + a1 * b0 + 38 * a2 * b15 + 38 * a3 * b14 + 38 * a4 * b13 + 38 * a5 * b12 + 38 * a6 * b11 + 38 * a7 * b10 + 38 * a8 * b9 + 38 * a9 * b8 + 38 * a10 * b7 + 38 * a11 * b6 + 38 * a12 * b5 + 38 * a13 * b4 + 38 * a14 * b3 + 38 * a15 * b2 := by
 simp [cvN, cvS]
theorem cv_2 (a0 a1 a2 a3 a4 a5 a6 a7 a8 a9 a10 a11 a12 a13 a14 a15 b0 b1 b2 b3 b4 b5 b6 b7 b8 b9 b10 b11 b12 b13 b14 b15 : Int) : cvN [a0, a1, a2, a3, a4, a5, a6, a7, a8, a9, a10, a11, a12, a13, a14, a15] [b0, b1, b2, b3, b4, b5, b6, b7, b8, b9, b10, b11, b12, b13, b14, b15] 2 16 = a0 * b2 + a1 * b1 + a2 * b0 + 38 * a3 * b15 + 38 * a4 * b14 + 38 * a5 * b13 + 38 * a6 * b12 + 38 * a7 * b11 + 38 * a8 * b10 + 38 * a9 * b9 + 38 * a10 * b8 + 38 * a11 * b7 + 38 * a12 * b6 + 38 * a13 * b5 + 38 * a14 * b4 + 38 * a15 * b3 := by
 simp [cvN, cvS]
theorem cv_3 (a0 a1 a2 a3 a4 a5 a6 a7 a8 a9 a10 a11 a12 a13 a14 a15 b0 b1 b2 b3 b4 b5 b6 b7 b8 b9 b10 b11 b12 b13 b14 b15 : Int) : cvN [a0, a1, a2, a3, a4, a5, a6, a7, a8, a9, a10, a11, a12, a13, a14, a15] [b0, b1, b2, b3, b4, b5, b6, b7, b8, b9, b10, b11, b12, b13, b14, b15] 3 16 = a0 * b3 + a1 * b2 + a2 * b1 + a3 * b0 + 38 * a4 * b15 + 38 * a5 * b14 + 38 * a6 * b13 + 38 * a7 * b12 + 38 * a8 * b11 + 38 * a9 * b10 + 38 * a10 * b9 + 38 * a11 * b8 + 38 * a12 * b7 + 38 * a13 * b6 + 38 * a14 * b5 + 38 * a15 * b4 := by
 simp [cvN, cvS]
theorem cv_4 (a0 a1 a2 a3 a4 a5 a6 a7 a8 a9 a10 a11 a12 a13 a14 a15 b0 b1 b2 b3 b4 b5 b6 b7 b8 b9 b10 b11 b12 b13 b14 b15 : Int) : cvN [a0, a1, a2, a3, a4, a5, a6, a7, a8, a9, a10, a11, a12, a13, a14, a15] [b0, b1, b2, b3, b4, b5, b6, b7, b8, b9, b10, b11, b12, b13, b14, b15] 4 16 = a0 * b4 + a1 * b3 + a2 * b2 + a3 * b1 + a4 * b0 + 38 * a5 * b15 + 38 * a6 * b14 + 38 * a7 * b13 + 38 * a8 * b12 + 38 * a9 * b11 + 38 * a10 * b10 + 38 * a11 * b9 + 38 * a12 * b8 + 38 * a13 * b7 + 38 * a14 * b6 + 38 * a15 * b5 := by
 simp [cvN, cvS]
theorem cv_5 (a0 a1 a2 a3 a4 a5 a6 a7 a8 a9 a10 a11 a12 a13 a14 a15 b0 b1 b2 b3 b4 b5 b6 b7 b8 b9 b10 b11 b12 b13 b14 b15 : Int) : cvN [a0, a1, a2, a3, a4, a5, a6, a7, a8, a9, a10, a11, a12, a13, a14, a15] [b0, b1, b2, b3, b4, b5, b6, b7, b8, b9, b10, b11, b12, b13, b14, b15] 5 16 = a0 * b5 + a1 * b4 + a2 * b3 + a3 * b2 + a4 * b1 + a5 * b0 + 38 * a6 * b15 + 38 * a7 * b14 + 38 * a8 * b13 + 38 * a9 * b12 + 38 * a10 * b11 + 38 * a11 * b10 + 38 * a12 * b9 + 38 * a13 * b8 + 38 * a14 * b7 + 38 * a15 * b6 := by
 simp [cvN, cvS]
theorem cv_6 (a0 a1 a2 a3 a4 a5 a6 a7 a8 a9 a10 a11 a12 a13 a14 a15 b0 b1 b2 b3 b4 b5 b6 b7 b8 b9 b10 b11 b12 b13 b14 b15 : Int) : cvN [a0, a1, a2, a3, a4, a5, a6, a7, a8, a9, a10, a11, a12, a13, a14, a15] [b0, b1, b2, b3, b4, b5, b6, b7, b8, b9, b10, b11, b12, b13, b14, b15] 6 16 = a0 * b6 + a1 * b5 + a2 * b4 + a3 * b3 + a4 * b2 + a5 * b1 + a6 * b0 + 38 * a7 * b15 + 38 * a8 * b14 + 38 * a9 * b13 + 38 * a10 * b12 + 38 * a11 * b11 + 38 * a12 * b10 + 38 * a13 * b9 + 38 * a14 * b8 + 38 * a15 * b7 := by
 simp [cvN, cvS]
theorem cv_7 (a0 a1 a2 a3 a4 a5 a6 a7 a8 a9 a10 a11 a12 a13 a14 a15 b0 b1 b2 b3 b4 b5 b6 b7 b8 b9 b10 b11 b12 b13 b14 b15 : Int) : cvN [a0, a1, a2, a3, a4, a5, a6, a7, a8, a9, a10, a11, a12, a13, a14, a15] [b0, b1, b2, b3, b4, b5, b6, b7, b8, b9, b10, b11, b12, b13, b14, b15] 7 16 = a0 * b7 + a1 * b6 + a2 * b5 + a3 * b4 + a4 * b3 + a5 * b2 + a6 * b1 + a7 * b0 + 38 * a8 * b15 + 38 * a9 * b14 + 38 * a10 * b13 + 38 * a11 * b12 + 38 * a12 * b11 + 38 * a13 * b10 + 38 * a14 * b9 + 38 * a15 * b8 := by
 simp [cvN, cvS]
theorem cv_8 (a0 a1 a2 a3 a4 a5 a6 a7 a8 a9 a10 a11 a12 a13 a14 a15 b0 b1 b2 b3 b4 b5 b6 b7 b8 b9 b10 b11 b12 b13 b14 b15 : Int) : cvN [a0, a1, a2, a3, a4, a5, a6, a7, a8, a9, a10, a11, a12, a13, a14, a15] [b0, b1, b2, b3, b4, b5, b6, b7, b8, b9, b10, b11, b12, b13, b14, b15] 8 16 = a0 * b8 + a1 * b7 + a2 * b6 + a3 * b5 + a4 * b4 + a5 * b3 + a6 * b2 + a7 * b1 + a8 * b0 + 38 * a9 * b15 + 38 * a10 * b14 + 38 * a11 * b13 + 38 * a12 * b12 + 38 * a13 * b11 + 38 * a14 * b10 + 38 * a15 * b9 := by
 simp [cvN, cvS]
theorem cv_9 (a0 a1 a2 a3 a4 a5 a6 a7 a8 a9 a10 a11 a12 a13 a14 a15 b0 b1 b2 b3 b4 b5 b6 b7 b8 b9 b10 b11 b12 b13 b14 b15 : Int) : cvN [a0, a1, a2, a3, a4, a5, a6, a7, a8, a9, a10, a11, a12, a13, a14, a15] [b0, b1, b2, b3, b4, b5, b6, b7, b8, b9, b10, b11, b12, b13, b14, b15] 9 16 = a0 * b9 + a1 * b8 + a2 * b7 + a3 * b6 + a4 * b5 + a5 * b4 + a6 * b3 + a7 * b2 + a8 * b1 + a9 * b0 + 38 * a10 * b15 + 38 * a11 * b14 + 38 * a12 * b13 + 38 * a13 * b12 + 38 * a14 * b11 + 38 * a15 * b10 := by
 simp [cvN, cvS]
theorem cv_10 (a0 a1 a2 a3 a4 a5 a6 a7 a8 a9 a10 a11 a12 a13 a14 a15 b0 b1 b2 b3 b4 b5 b6 b7 b8 b9 b10 b11 b12 b13 b14 b15 : Int) : cvN [a0, a1, a2, a3, a4, a5, a6, a7, a8, a9, a10, a11, a12, a13, a14, a15] [b0, b1, b2, b3, b4, b5, b6, b7, b8, b9, b10, b11, b12, b13, b14, b15] 10 16 = a0 * b10 + a1 * b9 + a2 * b8 + a3 * b7 + a4 * b6 + a5 * b5 + a6 * b4 + a7 * b3 + a8 * b2 + a9 * b1 + a10 * b0 + 38 * a11 * b15 + 38 * a12 * b14 + 38 * a13 * b13 + 38 * a14 * b12 + 38 * a15 * b11 := by
 simp [cvN, cvS]
theorem cv_11 (a0 a1 a2 a3 a4 a5 a6 a7 a8 a9 a10 a11 a12 a13 a14 a15 b0 b1 b2 b3 b4 b5 b6 b7 b8 b9 b10 b11 b12 b13 b14 b15 : Int) : cvN [a0, a1, a2, a3, a4, a5, a6, a7, a8, a9, a10, a11, a12, a13, a14, a15] [b0, b1, b2, b3, b4, b5, b6, b7, b8, b9, b10, b11, b12, b13, b14, b15] 11 16 = a0 * b11 + a1 * b10 + a2 * b9 + a3 * b8 + a4 * b7 + a5 * b6 + a6 * b5 + a7 * b4 + a8 * b3 + a9 * b2 + a10 * b1 + a11 * b0 + 38 * a12 * b15 + 38 * a13 * b14 + 38 * a14 * b13 + 38 * a15 * b12 := by
 simp [cvN, cvS]
theorem cv_12 (a0 a1 a2 a3 a4 a5 a6 a7 a8 a9 a10 a11 a12 a13 a14 a15 b0 b1 b2 b3 b4 b5 b6 b7 b8 b9 b10 b11 b12 b13 b14 b15 : Int) : cvN [a0, a1, a2, a3, a4, a5, a6, a7, a8, a9, a10, a11, a12, a13, a14, a15] [b0, b1, b2, b3, b4, b5, b6, b7, b8, b9, b10, b11, b12, b13, b14, b15] 12 16 = a0 * b12 + a1 * b11 + a2 * b10 + a3 * b9 + a4 * b8 + a5 * b7 + a6 * b6 + a7 * b5 + a8 * b4 + a9 * b3 + a10 * b2 + a11 * b1 + a12 * b0 + 38 * a13 * b15 + 38 * a14 * b14 + 38 * a15 * b13 := by
 simp [cvN, cvS]
theorem cv_13 (a0 a1 a2 a3 a4 a5 a6 a7 a8 a9 a10 a11 a12 a13 a14 a15 b0 b1 b2 b3 b4 b5 b6 b7 b8 b9 b10 b11 b12 b13 b14 b15 : Int) : cvN [a0, a1, a2, a3, a4, a5, a6, a7, a8, a9, a10, a11, a12, a13, a14, a15] [b0, b1, b2, b3, b4, b5, b6, b7, b8, b9, b10, b11, b12, b13, b14, b15] 13 16 = a0 * b13 + a1 * b12 + a2 * b11 + a3 * b10 + a4 * b9 + a5 * b8 + a6 * b7 + a7 * b6 + a8 * b5 + a9 * b4 + a10 * b3 + a11 * b2 + a12 * b1 + a13 * b0 + 38 * a14 * b15 + 38 * a15 * b14 := by
 simp [cvN, cvS]
theorem cv_14 (a0 a1 a2 a3 a4 a5 a6 a7 a8 a9 a10 a11 a12 a13 a14 a15 b0 b1 b2 b3 b4 b5 b6 b7 b8 b9 b10 b11 b12 b13 b14 b15 : Int) : cvN [a0, a1, a2, a3, a4, a5, a6, a7, a8, a9, a10, a11, a12, a13, a14, a15] [b0, b1, b2, b3, b4, b5, b6, b7, b8, b9, b10, b11, b12, b13, b14, b15] 14 16 = a0 * b14 + a1 * b13 + a2 * b12 + a3 * b11 + a4 * b10 + a5 * b9 + a6 * b8 + a7 * b7 + a8 * b6 + a9 * b5 + a10 * b4 + a11 * b3 + a12 * b2 + a13 * b1 + a14 * b0 + 38 * a15 * b15 := by
 simp [cvN, cvS]
theorem cv_15 (a0 a1 a2 a3 a4 a5 a6 a7 a8 a9 a10 a11 a12 a13 a14 a15 b0 b1 b2 b3 b4 b5 b6 b7 b8 b9 b10 b11 b12 b13 b14 b15 : Int) : cvN [a0, a1, a2, a3, a4, a5, a6, a7, a8, a9, a10, a11, a12, a13, a14, a15] [b0, b1, b2, b3, b4, b5, b6, b7, b8, b9, b10, b11, b12, b13, b14, b15] 15 16 = a0 * b15 + a1 * b14 + a2 * b13 + a3 * b12 + a4 * b11 + a5 * b10 + a6 * b9 + a7 * b8 + a8 * b7 + a9 * b6 + a10 * b5 + a11 * b4 + a12 * b3 + a13 * b2 + a14 * b1 + a15 * b0 := by
 simp [cvN, cvS]
def mulQ (a b : FT) : FT := (cvN (ls16 a) (ls16 b) 0 16, cvN (ls16 a) (ls16 b) 1 16, cvN (ls16 a) (ls16 b) 2 16, cvN (ls16 a) (ls16 b) 3 16, cvN (ls16 a) (ls16 b) 4 16, cvN (ls16 a) (ls16 b) 5 16, cvN (ls16 a) (ls16 b) 6 16, cvN (ls16 a) (ls16 b) 7 16, cvN (ls16 a) (ls16 b) 8 16, cvN (ls16 a) (ls16 b) 9 16, cvN (ls16 a) (ls16 b) 10 16, cvN (ls16 a) (ls16 b) 11 16, cvN (ls16 a) (ls16 b) 12 16, cvN (ls16 a) (ls16 b) 13 16, cvN (ls16 a) (ls16 b) 14 16, cvN (ls16 a) (ls16 b) 15 16, ())
theorem fin_cg {L q x : Int} (h : x = L + 115792089237316195423570985008687907853269984665640564039457584007913129639898 * q) : Cg L x := ⟨-(2 * q), by omega⟩
theorem mulQ_val (a b : FT) : Cg (valF (mulQ a b)) (valF a * valF b) := by
 obtain ⟨a0, a1, a2, a3, a4, a5, a6, a7, a8, a9, a10, a11, a12, a13, a14, a15, ⟨⟩⟩ := a
 obtain ⟨b0, b1, b2, b3, b4, b5, b6, b7, b8, b9, b10, b11, b12, b13, b14, b15, ⟨⟩⟩ := b
 have h := mul_ring a0 a1 a2 a3 a4 a5 a6 a7 a8 a9 a10 a11 a12 a13 a14 a15 b0 b1 b2 b3 b4 b5 b6 b7 b8 b9 b10 b11 b12 b13 b14 b15
 rw [valF_eq, valF_eq]
 unfold mulQ
 rw [valF_eq]
 simp only [ls16]
 rw [cv_0, cv_1, cv_2, cv_3, cv_4, cv_5, cv_6, cv_7, cv_8, cv_9, cv_10, cv_11, cv_12, cv_13, cv_14, cv_15]
 exact fin_cg h
theorem mulQ_lim {a b : FT} (ha : LimF 65536 a) (hb : LimF 65536 b) : LimF 9223372036854775808 (mulQ a b) := by
 unfold mulQ LimF ls16
 have k : ∀ i : Int, 0 ≤ cvN (ls16 a) (ls16 b) i 16 ∧ cvN (ls16 a) (ls16 b) i 16 < 9223372036854775808 := fun i => by
  have := cvN_lim ha hb i 16
  omega
 refine ⟨?_⟩
 simp only [List.mem_cons, List.not_mem_nil, or_false, forall_eq_or_imp, forall_eq]
 exact ⟨k _, k _, k _, k _, k _, k _, k _, k _, k _, k _, k _, k _, k _, k _, k _, k _⟩
end Go.Proofs.Ytihnagafldpbnaa.V
