/- Proposals in bytes: what the program's reader computes (pure). -/
import Derived.Test.YtkeefgiajogkkaaVNu
import Derived.Test.YtkeefgiajogkkaaVPd
set_option linter.unusedVariables false
set_option linter.unusedSimpArgs false
namespace Go.Proofs.Ytkeefgiajogkkaa.V
open Go.RowKit
set_option maxHeartbeats 8000000
set_option maxRecDepth 100000
theorem cutF_0 {l : List UInt8} {w : Int} (h0 : 0 ≤ w) (h1 : w ≤ l.length) : cutF l 0 w = l.take w.toNat := by
 unfold cutF
 rw [if_pos (by omega)]
 simp
theorem cutF_no {l : List UInt8} {w : Int} (h : ¬ (0 ≤ w ∧ w ≤ l.length)) : cutF l 0 w = [] := by
 unfold cutF
 rw [if_neg (by omega)]
theorem numF_cut (l : List UInt8) (w : Int) : numF (cutF l 0 w) 0 w = numF l 0 w := by
 by_cases h : 0 ≤ w ∧ w ≤ l.length
 ·rw [cutF_0 h.1 h.2]
  unfold numF
  have hl : (l.take w.toNat).length = w.toNat := by rw [List.length_take]; omega
  by_cases h1 : 1 ≤ w ∧ w ≤ 8
  ·rw [if_pos (by rw [hl]; omega), if_pos (by omega)]
   simp only [Int.toNat_zero, List.drop_zero, List.take_take, Nat.min_self]
  ·rw [if_neg (by omega), if_neg (by omega)]
 ·rw [cutF_no h]
  unfold numF
  rw [if_neg (by simp only [List.length_nil]; omega), if_neg (by omega)]
theorem numF_drop (l : List UInt8) (k : Nat) (w : Int) : numF (l.drop k) 0 w = numF l k w := by
 unfold numF
 rw [List.length_drop]
 by_cases h : 1 ≤ w ∧ w ≤ 8 ∧ (k : Int) + w ≤ l.length
 ·rw [if_pos (by omega), if_pos (by omega)]
  simp
 ·rw [if_neg (by omega), if_neg (by omega)]
theorem take_rest (l : List UInt8) (k : Nat) : List.take (l.length - k) (List.drop k l) = List.drop k l := by
 exact List.take_of_length_le (by rw [List.length_drop]; exact Nat.le_refl _)
def prI (d : List UInt8) : List UInt8 := cutF (d.drop 4) 0 ((numF d 2 2).1 - 4)
def TrC (d : List UInt8) : Prop := 4 ≤ d.length ∧ ((numF d 0 1).1 = 0 ∨ (numF d 0 1).1 = 3) ∧ 4 ≤ (numF d 2 2).1 ∧ (numF d 2 2).1 ≤ d.length ∧ ((prI d).length = 4 ∨ ((prI d).length = 8 ∧ (numF (prI d) 4 2).1 = 32782 ∧ ¬ (numF (prI d) 6 2).1 = 0))
instance (d : List UInt8) : Decidable (TrC d) := by unfold TrC; exact inferInstance
def trV (d : List UInt8) : TrT := ((numF (prI d) 0 1).1, (numF (prI d) 2 2).1, if (prI d).length = 4 then 0 else (numF (prI d) 6 2).1, ())
def trR (d : List UInt8) : List UInt8 := d.drop (numF d 2 2).1.toNat
def trM (d : List UInt8) : Bool := decide (¬ (numF d 0 1).1 = 0)
def trsP : Nat → List UInt8 → Option (List TrT)
 | 0, d => if d.length = 0 then some [] else none
 | c + 1, d => if TrC d ∧ trM d = decide (0 < c) then (trsP c (trR d)).map (trV d :: ·) else none
def prSpi (d : List UInt8) : List UInt8 := cutF ((prI d).drop 4) 0 (numF (prI d) 2 1).1
def prT (d : List UInt8) : List UInt8 := (prI d).drop (4 + (numF (prI d) 2 1).1.toNat)
def PrC (d : List UInt8) : Prop := 4 ≤ d.length ∧ ((numF d 0 1).1 = 0 ∨ (numF d 0 1).1 = 2) ∧ 4 ≤ (numF d 2 2).1 ∧ (numF d 2 2).1 ≤ d.length ∧ 4 ≤ (prI d).length ∧ 4 + (numF (prI d) 2 1).1 ≤ (prI d).length
instance (d : List UInt8) : Decidable (PrC d) := by unfold PrC; exact inferInstance
def prP (d : List UInt8) : Option PrT :=
 if PrC d then (trsP (numF (prI d) 3 1).1.toNat (prT d)).map fun ts => ((numF (prI d) 0 1).1, (numF (prI d) 1 1).1, prSpi d, ts, ()) else none
def prR (d : List UInt8) : List UInt8 := d.drop (numF d 2 2).1.toNat
def prM (d : List UInt8) : Bool := decide (¬ (numF d 0 1).1 = 0)
def prsN : Nat → List UInt8 → Option (List PrT)
 | 0, _ => none
 | k + 1, d => match prP d with
   | none => none
   | some x => match prM d with
     | true => (prsN k (prR d)).map (x :: ·)
     | false => if (prR d).length = 0 then some [x] else none
theorem prC_len {d : List UInt8} (h : PrC d) : (prR d).length + 8 ≤ d.length := by
 obtain ⟨h1, _, h2, h3, h4, _⟩ := h
 unfold prR
 rw [List.length_drop]
 have : (prI d).length ≤ ((numF d 2 2).1 - 4).toNat := by
  unfold prI cutF
  split
  ·rw [List.length_take]; omega
  ·simp
 omega
theorem prsN_more : ∀ {k : Nat} {d : List UInt8}, d.length ≤ k → ∀ m, d.length ≤ m → prsN k d = prsN m d := by
 intro k
 induction k with
 | zero =>
   intro d h m _
   have hd : d = [] := List.eq_nil_of_length_eq_zero (by omega)
   subst hd
   cases m with
   | zero => rfl
   | succ m =>
     have : prP [] = none := by
      unfold prP
      rw [if_neg]
      intro h
      have := h.1
      simp at this
     simp only [prsN, this]
 | succ k ih =>
   intro d h m hm
   cases m with
   | zero =>
     have hd : d = [] := List.eq_nil_of_length_eq_zero (by omega)
     subst hd
     have : prP [] = none := by
      unfold prP
      rw [if_neg]
      intro h
      have := h.1
      simp at this
     simp only [prsN, this]
   | succ m =>
     simp only [prsN]
     cases hp : prP d with
     | none => rfl
     | some x =>
       have hc : PrC d := by
        unfold prP at hp
        split at hp
        ·assumption
        ·cases hp
       have := prC_len hc
       rw [ih (by omega) m (by omega)]
def prsP (d : List UInt8) : Option (List PrT) := prsN d.length d
theorem prsP_eq (d : List UInt8) : prsP d = match prP d with
    | none => none
    | some x => match prM d with
      | true => (prsP (prR d)).map (x :: ·)
      | false => if (prR d).length = 0 then some [x] else none := by
 unfold prsP
 rw [prsN_more (Nat.le_refl _) (d.length + 1) (by omega)]
 simp only [prsN]
 cases hp : prP d with
 | none => rfl
 | some x =>
   have hc : PrC d := by
    unfold prP at hp
    split at hp
    ·assumption
    ·cases hp
   have := prC_len hc
   rw [prsN_more (show (prR d).length ≤ d.length by omega) (prR d).length (Nat.le_refl _)]
theorem ok_iff {l : List UInt8} {n : Int} : cutOk l 0 n = true ↔ 0 ≤ n ∧ n ≤ l.length := by
 unfold cutOk
 rw [decide_eq_true_iff]
 omega
theorem len_cut {l : List UInt8} {n : Int} (h : 0 ≤ n ∧ n ≤ l.length) : (cutF l 0 n).length = n.toNat := by
 rw [cutF_0 h.1 h.2, List.length_take]
 omega
theorem rd_ok {x : List UInt8 × Bool × PUnit} {l : List UInt8} {n : Int} {P : Prop} (hx : (x.1 = cutF l 0 n ∧ x.2.1 = cutOk l 0 n) ∧ P) (h : (!x.2.1) = false) : x.1 = cutF l 0 n ∧ 0 ≤ n ∧ n ≤ l.length := by
 refine ⟨hx.1.1, ok_iff.1 ?_⟩
 rw [← hx.1.2]
 simpa using h
theorem rd_no {x : List UInt8 × Bool × PUnit} {l : List UInt8} {n : Int} {P : Prop} (hx : (x.1 = cutF l 0 n ∧ x.2.1 = cutOk l 0 n) ∧ P) (h : (!x.2.1) = true) : ¬ (0 ≤ n ∧ n ≤ l.length) := by
 intro hk
 rw [← ok_iff, ← hx.1.2] at hk
 rw [hk] at h
 cases h
theorem ok_i {l : List UInt8} {n : Int} : (true = cutOk l 0 n) = (0 ≤ n ∧ n ≤ l.length) := by
 rw [← ok_iff]
 cases cutOk l 0 n <;> simp
theorem no_i {l : List UInt8} {n : Int} : (false = cutOk l 0 n) = ¬ (0 ≤ n ∧ n ≤ l.length) := by
 rw [← ok_iff]
 cases cutOk l 0 n <;> simp
theorem no_iff {l : List UInt8} {n : Int} : cutOk l 0 n = false ↔ ¬ (0 ≤ n ∧ n ≤ l.length) := by
 rw [← ok_iff]
 cases cutOk l 0 n <;> simp
theorem n1 (l : List UInt8) (a : Int) : 0 ≤ (numF l a 1).1 ∧ (numF l a 1).1 < 256 := ⟨numF_nn l a 1, numF_lt l a 1 1 (by decide)⟩
theorem n2 (l : List UInt8) (a : Int) : 0 ≤ (numF l a 2).1 ∧ (numF l a 2).1 < 65536 := ⟨numF_nn l a 2, numF_lt l a 2 2 (by decide)⟩
theorem nW1 (l : List UInt8) (a : Int) : ((numF l a 1).1 + 9223372036854775808) % 18446744073709551616 - 9223372036854775808 = (numF l a 1).1 := by
 have := n1 l a
 omega
theorem nW2 (l : List UInt8) (a : Int) : ((numF l a 2).1 + 9223372036854775808) % 18446744073709551616 - 9223372036854775808 = (numF l a 2).1 := by
 have := n2 l a
 omega
theorem nW4 (l : List UInt8) (a : Int) : ((numF l a 2).1 - 4 + 9223372036854775808) % 18446744073709551616 - 9223372036854775808 = (numF l a 2).1 - 4 := by
 have := n2 l a
 omega
theorem c1 : ((1 : Nat) : Int) = 1 := rfl
theorem c2 : ((2 : Nat) : Int) = 2 := rfl
theorem c3 : ((3 : Nat) : Int) = 3 := rfl
theorem c4 : ((4 : Nat) : Int) = 4 := rfl
theorem c6 : ((6 : Nat) : Int) = 6 := rfl
theorem c8 : ((8 : Nat) : Int) = 8 := rfl
theorem prI_fold (d : List UInt8) : cutF (d.drop 4) 0 ((numF d 2 2).1 - 4) = prI d := rfl
theorem prI_len {d : List UInt8} (h1 : 4 ≤ (numF d 2 2).1) (h2 : (numF d 2 2).1 ≤ d.length) : ((prI d).length : Int) = (numF d 2 2).1 - 4 := by
 unfold prI
 rw [len_cut (by rw [List.length_drop]; omega)]
 omega
end Go.Proofs.Ytkeefgiajogkkaa.V
