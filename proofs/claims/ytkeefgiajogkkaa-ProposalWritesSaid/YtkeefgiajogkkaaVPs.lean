/- The document's reader of transforms and proposals: what it computes is what the program's reader computes (pure). -/
import Derived.Test.YtkeefgiajogkkaaVPr
set_option linter.unusedVariables false
set_option linter.unusedSimpArgs false
namespace Go.Proofs.Ytkeefgiajogkkaa.V
open Go.RowKit
set_option maxHeartbeats 8000000
set_option maxRecDepth 100000
theorem num1_at (d : List UInt8) (k : Nat) (h : k < d.length) : (numF d k 1).1 = ((d.getD k 0).toNat : Int) := by
 unfold numF
 rw [if_pos (by omega)]
 simp only [Int.toNat_natCast, Int.toNat_one]
 rw [show (1 : Nat) = 0 + 1 from rfl, getD_drop d k 0 (by omega)]
 simp [num]
theorem numF_sl (d : List UInt8) (a n k : Nat) (w : Int) (h1 : a + n ≤ d.length) (h2 : (k : Int) + w ≤ n) : numF ((d.drop a).take n) k w = numF d ((a : Int) + k) w := by
 unfold numF
 have hl : ((d.drop a).take n).length = n := by rw [List.length_take, List.length_drop]; omega
 rw [hl]
 by_cases h : 1 ≤ w ∧ w ≤ 8
 ·rw [if_pos (by omega), if_pos (by omega)]
  rw [show ((a : Int) + k).toNat = a + k by omega, Int.toNat_natCast, List.drop_take, List.drop_drop, List.take_take, Nat.min_eq_left (by omega)]
 ·rw [if_neg (by omega), if_neg (by omega)]
theorem prI_eq {d : List UInt8} (h1 : 4 ≤ (numF d 2 2).1) (h2 : (numF d 2 2).1 ≤ d.length) : prI d = (d.drop 4).take ((numF d 2 2).1 - 4).toNat := by
 unfold prI
 rw [cutF_0 (by omega) (by rw [List.length_drop]; omega)]
theorem numF_prI {d : List UInt8} (k : Nat) (w : Int) (h1 : 4 ≤ (numF d 2 2).1) (h2 : (numF d 2 2).1 ≤ d.length) (h : (k : Int) + w ≤ (numF d 2 2).1 - 4) : numF (prI d) k w = numF d (4 + k) w := by
 rw [prI_eq h1 h2, numF_sl _ _ _ _ _ (by omega) (by omega)]
 rfl
def TrQ (d : List UInt8) : Prop := TrC d ∧ trM d = decide (¬ (trR d).length = 0)
instance (d : List UInt8) : Decidable (TrQ d) := by unfold TrQ; exact inferInstance
def trsQN : Nat → List UInt8 → Option (List TrT)
 | 0, d => if d.length = 0 then some [] else none
 | k + 1, d => if d.length = 0 then some [] else if TrQ d then (trsQN k (trR d)).map (trV d :: ·) else none
theorem trC_len {d : List UInt8} (h : TrC d) : (trR d).length + 4 ≤ d.length := by
 obtain ⟨h1, _, h2, h3, _⟩ := h
 unfold trR
 rw [List.length_drop]
 omega
theorem trsQN_more : ∀ {k : Nat} {d : List UInt8}, d.length ≤ k → ∀ m, d.length ≤ m → trsQN k d = trsQN m d := by
 intro k
 induction k with
 | zero =>
   intro d h m _
   have hd : d.length = 0 := by omega
   cases m <;> simp only [trsQN, if_pos hd]
 | succ k ih =>
   intro d h m hm
   cases m with
   | zero =>
     have hd : d.length = 0 := by omega
     simp only [trsQN, if_pos hd]
   | succ m =>
     simp only [trsQN]
     split
     ·rfl
     ·split
      ·rename_i hq
       have := trC_len hq.1
       rw [ih (by omega) m (by omega)]
      ·rfl
def trsQ (d : List UInt8) : Option (List TrT) := trsQN d.length d
theorem trsQ_nil {d : List UInt8} (h : d.length = 0) : trsQ d = some [] := by
 unfold trsQ
 rw [h]
 unfold trsQN
 rw [if_pos h]
theorem trsQ_eq {d : List UInt8} (h : ¬ d.length = 0) : trsQ d = if TrQ d then (trsQ (trR d)).map (trV d :: ·) else none := by
 unfold trsQ
 rw [trsQN_more (Nat.le_refl _) (d.length + 1) (by omega)]
 simp only [trsQN]
 rw [if_neg h]
 split
 ·rename_i hq
  have := trC_len hq.1
  rw [trsQN_more (show (trR d).length ≤ d.length by omega) (trR d).length (Nat.le_refl _)]
 ·rfl
theorem trs_q : ∀ (c : Nat) (d : List UInt8) (l : List TrT), trsP c d = some l ↔ trsQ d = some l ∧ l.length = c := by
 intro c
 induction c with
 | zero =>
   intro d l
   unfold trsP
   by_cases h : d.length = 0
   ·rw [if_pos h, trsQ_nil h]
    constructor
    ·intro h; cases h; exact ⟨rfl, rfl⟩
    ·intro h; exact h.1
   ·rw [if_neg h]
    constructor
    ·intro h; cases h
    ·rintro ⟨h1, h2⟩
     rw [trsQ_eq h] at h1
     split at h1
     ·cases hr : trsQ (trR d) with
      | none => rw [hr] at h1; cases h1
      | some l' => rw [hr] at h1; cases h1; cases h2
     ·cases h1
 | succ c ih =>
   intro d l
   unfold trsP
   by_cases h : d.length = 0
   ·have hc : ¬ TrC d := fun hc => by have := hc.1; omega
    rw [if_neg (fun hx => hc hx.1), trsQ_nil h]
    constructor
    ·intro h; cases h
    ·rintro ⟨h1, h2⟩; cases h1; cases h2
   ·rw [trsQ_eq h]
    constructor
    ·intro hl
     split at hl
     ·rename_i hc
      cases hr : trsP c (trR d) with
      | none => rw [hr] at hl; cases hl
      | some l' =>
        rw [hr] at hl
        cases hl
        obtain ⟨e1, e2⟩ := (ih _ _).1 hr
        have hk : (0 < c) ↔ ¬ (trR d).length = 0 := by
         constructor
         ·intro h0 hz
          rw [trsQ_nil hz] at e1
          cases e1
          simp at e2
          omega
         ·intro hz
          rcases Nat.eq_zero_or_pos c with h0 | h0
          ·subst h0
           rw [trsQ_eq hz] at e1
           split at e1
           ·cases hr2 : trsQ (trR (trR d)) with
            | none => rw [hr2] at e1; cases e1
            | some l2 => rw [hr2] at e1; cases e1; cases e2
           ·cases e1
          ·exact h0
        rw [if_pos ⟨hc.1, by rw [hc.2, decide_eq_decide]; exact hk⟩, e1]
        exact ⟨rfl, by simp [e2]⟩
     ·cases hl
    ·rintro ⟨hl, hn⟩
     split at hl
     ·rename_i hc
      cases hr : trsQ (trR d) with
      | none => rw [hr] at hl; cases hl
      | some l' =>
        rw [hr] at hl
        cases hl
        have hn' : l'.length = c := by simpa using hn
        have hk : (0 < c) ↔ ¬ (trR d).length = 0 := by
         constructor
         ·intro h0 hz
          rw [trsQ_nil hz] at hr
          cases hr
          simp at hn'
          omega
         ·intro hz
          rcases Nat.eq_zero_or_pos c with h0 | h0
          ·subst h0
           rw [trsQ_eq hz] at hr
           split at hr
           ·cases hr2 : trsQ (trR (trR d)) with
            | none => rw [hr2] at hr; cases hr
            | some l2 => rw [hr2] at hr; cases hr; cases hn'
           ·cases hr
          ·exact h0
        rw [if_pos ⟨hc.1, by rw [hc.2, decide_eq_decide]; exact hk.symm⟩, (ih _ _).2 ⟨hr, hn'⟩]
        rfl
     ·cases hl
def QtC (d : List UInt8) (mk : Int) : Prop := 8 ≤ d.length ∧ 8 ≤ (numF d 2 2).1 ∧ (numF d 2 2).1 ≤ d.length ∧ (numF d 0 1).1 = if (numF d 2 2).1 = d.length then 0 else mk
theorem mk_iff {d : List UInt8} {mk : Int} (hm : ¬ mk = 0) (h2 : (numF d 2 2).1 ≤ d.length) : ((numF d 0 1).1 = if (numF d 2 2).1 = d.length then 0 else mk) ↔ (((numF d 0 1).1 = 0 ∨ (numF d 0 1).1 = mk) ∧ decide (¬ (numF d 0 1).1 = 0) = decide (¬ (List.drop (numF d 2 2).1.toNat d).length = 0)) := by
 have h0 := (n2 d 2).1
 rw [decide_eq_decide, List.length_drop]
 split <;> omega
theorem att_iff {d : List UInt8} (h1 : 8 ≤ (numF d 2 2).1) (h2 : (numF d 2 2).1 ≤ d.length) :
    (attF ((d.drop 8).take ((numF d 2 2).1 - 8).toNat)).2 = true ↔ ((prI d).length = 4 ∨ ((prI d).length = 8 ∧ (numF (prI d) 4 2).1 = 32782 ∧ ¬ (numF (prI d) 6 2).1 = 0)) := by
 have hp := prI_len (by omega) h2
 have hl : ((d.drop 8).take ((numF d 2 2).1 - 8).toNat).length = ((numF d 2 2).1 - 8).toNat := by rw [List.length_take, List.length_drop]; omega
 unfold attF
 rw [hl]
 by_cases h8 : (numF d 2 2).1 = 8
 ·rw [if_pos (by omega)]
  exact ⟨fun _ => .inl (by omega), fun _ => rfl⟩
 ·rw [if_neg (by omega)]
  by_cases h12 : (numF d 2 2).1 = 12
  ·have e1 := numF_sl d 8 ((numF d 2 2).1 - 8).toNat 0 2 (by omega) (by omega)
   have e2 := numF_sl d 8 ((numF d 2 2).1 - 8).toNat 2 2 (by omega) (by omega)
   have e3 := numF_prI 4 2 (by omega) h2 (by omega)
   have e4 := numF_prI 6 2 (by omega) h2 (by omega)
   simp only [Int.ofNat_zero, Int.cast_ofNat_Int, Int.add_zero, Int.reduceAdd] at e1 e2 e3 e4
   rw [e1, e2, e3, e4]
   split
   ·rename_i hx
    simp only [Bool.false_eq_true, false_iff]
    omega
   ·simp only [true_iff]
    omega
  ·rw [if_pos (by omega)]
   simp only [Bool.false_eq_true, false_iff]
   omega
theorem trq_iff {d : List UInt8} : TrQ d ↔ QtC d 3 ∧ (attF ((d.drop 8).take ((numF d 2 2).1 - 8).toNat)).2 = true := by
 unfold TrQ TrC QtC trM trR
 constructor
 ·rintro ⟨⟨h1, h2, h3, h4, h5⟩, h6⟩
  have hp := prI_len h3 h4
  have h8 : 8 ≤ (numF d 2 2).1 := by omega
  exact ⟨⟨by omega, h8, h4, (mk_iff (by omega) h4).2 ⟨h2, h6⟩⟩, (att_iff h8 h4).2 h5⟩
 ·rintro ⟨⟨h1, h2, h3, h4⟩, h5⟩
  obtain ⟨h6, h7⟩ := (mk_iff (by omega) h3).1 h4
  exact ⟨⟨by omega, h6, by omega, h3, (att_iff h2 h3).1 h5⟩, h7⟩
theorem trv_eq {d : List UInt8} (h : TrQ d) : trV d = (((d.getD 4 0).toNat : Int), (numF d 6 2).1, (attF ((d.drop 8).take ((numF d 2 2).1 - 8).toNat)).1, ()) := by
 obtain ⟨⟨h1, h2, h3, h4⟩, h5⟩ := trq_iff.1 h
 have hp := prI_len (by omega) h3
 have hl : ((d.drop 8).take ((numF d 2 2).1 - 8).toNat).length = ((numF d 2 2).1 - 8).toNat := by rw [List.length_take, List.length_drop]; omega
 have e1 := numF_prI 0 1 (by omega) h3 (by omega)
 have e2 := numF_prI 2 2 (by omega) h3 (by omega)
 have e5 := num1_at d 4 (by omega)
 simp only [Int.ofNat_zero, Int.cast_ofNat_Int, Int.add_zero, Int.reduceAdd] at e1 e2 e5
 unfold trV
 rw [e1, e2, e5]
 unfold attF at h5 ⊢
 rw [hl] at h5 ⊢
 by_cases h8 : (numF d 2 2).1 = 8
 ·rw [if_pos (by omega), if_pos (by omega)]
 ·rw [if_neg (by omega)] at h5 ⊢
  rw [if_neg (by omega)]
  split at h5
  ·cases h5
  ·rename_i hx
   have e3 := numF_sl d 8 ((numF d 2 2).1 - 8).toNat 2 2 (by omega) (by omega)
   have e4 := numF_prI 6 2 (by omega) h3 (by omega)
   simp only [Int.ofNat_zero, Int.cast_ofNat_Int, Int.add_zero, Int.reduceAdd] at e3 e4
   rw [e3, e4]
   rw [if_neg (by rw [← e3]; exact hx)]
def PrQ (d : List UInt8) : Prop := PrC d ∧ prM d = decide (¬ (prR d).length = 0)
instance (d : List UInt8) : Decidable (PrQ d) := by unfold PrQ; exact inferInstance
theorem prq_iff {d : List UInt8} : PrQ d ↔ QtC d 2 ∧ 8 + ((d.getD 6 0).toNat : Int) ≤ (numF d 2 2).1 := by
 unfold PrQ PrC QtC prM prR
 constructor
 ·rintro ⟨⟨h1, h2, h3, h4, h5, h6⟩, h7⟩
  have hp := prI_len h3 h4
  have h8 : 8 ≤ (numF d 2 2).1 := by omega
  have e1 := numF_prI 2 1 h3 h4 (by omega)
  have e2 := num1_at d 6 (by omega)
  simp only [Int.ofNat_zero, Int.cast_ofNat_Int, Int.add_zero, Int.reduceAdd] at e1 e2
  rw [e1, e2] at h6
  exact ⟨⟨by omega, h8, h4, (mk_iff (by omega) h4).2 ⟨h2, h7⟩⟩, by omega⟩
 ·rintro ⟨⟨h1, h2, h3, h4⟩, h5⟩
  obtain ⟨h6, h7⟩ := (mk_iff (by omega) h3).1 h4
  have hp := prI_len (by omega) h3
  have e1 := numF_prI 2 1 (by omega) h3 (by omega)
  have e2 := num1_at d 6 (by omega)
  simp only [Int.ofNat_zero, Int.cast_ofNat_Int, Int.add_zero, Int.reduceAdd] at e1 e2
  exact ⟨⟨by omega, h6, by omega, h3, by omega, by rw [e1, e2]; omega⟩, h7⟩
def prsQN : Nat → List UInt8 → Option (List PrT)
 | 0, d => if d.length = 0 then some [] else none
 | k + 1, d => if d.length = 0 then some [] else if PrQ d then match prP d with
   | none => none
   | some x => (prsQN k (prR d)).map (x :: ·) else none
theorem prsQN_more : ∀ {k : Nat} {d : List UInt8}, d.length ≤ k → ∀ m, d.length ≤ m → prsQN k d = prsQN m d := by
 intro k
 induction k with
 | zero =>
   intro d h m _
   have hd : d.length = 0 := by omega
   cases m <;> simp only [prsQN, if_pos hd]
 | succ k ih =>
   intro d h m hm
   cases m with
   | zero =>
     have hd : d.length = 0 := by omega
     simp only [prsQN, if_pos hd]
   | succ m =>
     simp only [prsQN]
     split
     ·rfl
     ·split
      ·rename_i hq
       have := prC_len hq.1
       rw [ih (by omega) m (by omega)]
      ·rfl
def prsQ (d : List UInt8) : Option (List PrT) := prsQN d.length d
theorem prsQ_nil {d : List UInt8} (h : d.length = 0) : prsQ d = some [] := by
 unfold prsQ
 rw [h]
 unfold prsQN
 rw [if_pos h]
theorem prsQ_eq {d : List UInt8} (h : ¬ d.length = 0) : prsQ d = if PrQ d then match prP d with
    | none => none
    | some x => (prsQ (prR d)).map (x :: ·) else none := by
 unfold prsQ
 rw [prsQN_more (Nat.le_refl _) (d.length + 1) (by omega)]
 simp only [prsQN]
 rw [if_neg h]
 split
 ·rename_i hq
  have := prC_len hq.1
  rw [prsQN_more (show (prR d).length ≤ d.length by omega) (prR d).length (Nat.le_refl _)]
 ·rfl
theorem prsP_nil {d : List UInt8} (h : d.length = 0) : prsP d = none := by
 rw [prsP_eq]
 have : prP d = none := by
  unfold prP
  rw [if_neg]
  intro h
  have := h.1
  omega
 rw [this]
theorem prs_q : ∀ (n : Nat) (d : List UInt8), d.length ≤ n → ¬ d.length = 0 → prsP d = prsQ d := by
 intro n
 induction n with
 | zero => intro d h h0; omega
 | succ n ih =>
   intro d h h0
   rw [prsP_eq, prsQ_eq h0]
   cases hp : prP d with
   | none => simp only; split <;> rfl
   | some x =>
     have hc : PrC d := by
      unfold prP at hp
      split at hp
      ·assumption
      ·cases hp
     have hl := prC_len hc
     cases hm : prM d with
     | true =>
       by_cases hr : (prR d).length = 0
       ·rw [if_neg (fun hq => by have := hq.2; rw [hm] at this; simp [hr] at this)]
        simp only
        rw [prsP_nil hr]
        rfl
       ·rw [if_pos ⟨hc, by rw [hm]; simp [hr]⟩]
        simp only
        rw [ih _ (by omega) hr]
     | false =>
       by_cases hr : (prR d).length = 0
       ·rw [if_pos ⟨hc, by rw [hm]; simp [hr]⟩]
        simp only
        rw [if_pos hr, prsQ_nil hr]
        rfl
       ·rw [if_neg (fun hq => by have := hq.2; rw [hm] at this; simp [hr] at this)]
        simp only
        rw [if_neg hr]
theorem numF_drop2 (l : List UInt8) (k a : Nat) (w : Int) : numF (l.drop k) a w = numF l (k + a) w := by
 unfold numF
 rw [List.length_drop]
 by_cases h : 1 ≤ w ∧ w ≤ 8 ∧ (k : Int) + a + w ≤ l.length
 ·rw [if_pos (by omega), if_pos (by omega), List.drop_drop, Int.toNat_natCast, show ((k : Int) + a).toNat = k + a by omega]
 ·by_cases hw : 1 ≤ w ∧ w ≤ 8
  ·rw [if_neg (by omega), if_neg (by omega)]
  ·rw [if_neg (by omega), if_neg (by omega)]
theorem getD_drop2 (l : List UInt8) (k a : Nat) : (l.drop k).getD a 0 = l.getD (k + a) 0 := by
 simp [List.getD_eq_getElem?_getD, List.getElem?_drop]
theorem cut_drop (b : List UInt8) (k a n : Nat) (z n' : Int) (hz : z = k) (hn : n' = (n : Int)) : ((b.drop k).drop a).take (n - a) = (b.drop (z + a).toNat).take ((z + n').toNat - (z + a).toNat) := by
 subst hz hn
 rw [List.drop_drop, show ((k : Int) + a).toNat = k + a by omega, show ((k : Int) + n).toNat = k + n by omega, show k + n - (k + a) = n - a by omega]
def QtA (b : List UInt8) (z mk : Int) : Prop := 8 ≤ (b.length : Int) - z ∧ 8 ≤ (numF b (z + 2) 2).1 ∧ (numF b (z + 2) 2).1 ≤ (b.length : Int) - z ∧ ((b.getD z.toNat 0).toNat : Int) = if z + (numF b (z + 2) 2).1 = b.length then 0 else mk
theorem qt_at {b : List UInt8} {z mk : Int} (h0 : 0 ≤ z) (h1 : z < b.length) : QtC (b.drop z.toNat) mk ↔ QtA b z mk := by
 obtain ⟨k, rfl⟩ := Int.eq_ofNat_of_zero_le h0
 have e1 := numF_drop2 b k 2 2
 have e2 := num1_at (b.drop k) 0 (by rw [List.length_drop]; omega)
 have e3 := getD_drop2 b k 0
 simp only [Int.ofNat_zero, Int.cast_ofNat_Int, Nat.add_zero, Int.reduceAdd] at e1 e2 e3
 unfold QtC QtA
 rw [Int.toNat_natCast, e1, e2, e3, List.length_drop]
 have hc : (numF b (k + 2) 2).1 = ((b.length - k : Nat) : Int) ↔ (k : Int) + (numF b (k + 2) 2).1 = b.length := by omega
 simp only [hc]
 constructor
 ·rintro ⟨a, c, d, e⟩
  exact ⟨by omega, c, by omega, e⟩
 ·rintro ⟨a, c, d, e⟩
  exact ⟨by omega, c, by omega, e⟩
abbrev attA (b : List UInt8) (z : Int) : List UInt8 := (b.drop (z + 8).toNat).take ((z + (numF b (z + 2) 2).1).toNat - (z + 8).toNat)
theorem att_at {b : List UInt8} {z : Int} (h0 : 0 ≤ z) (h8 : 8 ≤ (numF b (z + 2) 2).1) : ((b.drop z.toNat).drop 8).take ((numF (b.drop z.toNat) 2 2).1 - 8).toNat = attA b z := by
 obtain ⟨k, rfl⟩ := Int.eq_ofNat_of_zero_le h0
 have e1 := numF_drop2 b k 2 2
 simp only [Int.ofNat_zero, Int.cast_ofNat_Int, Nat.add_zero, Int.reduceAdd] at e1
 rw [Int.toNat_natCast, e1]
 obtain ⟨n, hn⟩ := Int.eq_ofNat_of_zero_le (show 0 ≤ (numF b (k + 2) 2).1 by omega)
 unfold attA
 rw [hn] at h8 ⊢
 have e := cut_drop b k 8 n k n rfl rfl
 rw [show ((n : Int) - 8).toNat = n - 8 by omega]
 exact e
theorem tr_at {b : List UInt8} {z : Int} (h0 : 0 ≤ z) (h1 : z < b.length) : TrQ (b.drop z.toNat) ↔ QtA b z 3 ∧ (attF (attA b z)).2 = true := by
 rw [trq_iff, qt_at h0 h1]
 constructor
 ·rintro ⟨h, h2⟩
  rw [att_at h0 h.2.1] at h2
  exact ⟨h, h2⟩
 ·rintro ⟨h, h2⟩
  rw [← att_at h0 h.2.1] at h2
  exact ⟨h, h2⟩
theorem rt_no {b : List UInt8} {z : Int} {acc : List TrT} (hP : (trsQ (b.drop z.toNat)).map (acc ++ ·) = trsQ b) (h0 : 0 ≤ z) (h1 : z < b.length) (h : ¬ (QtA b z 3 ∧ (attF (attA b z)).2 = true)) (c : Nat) : none = trsP c b := by
 rw [← tr_at h0 h1] at h
 rw [trsQ_eq (by rw [List.length_drop]; omega), if_neg h] at hP
 cases hc : trsP c b with
 | none => rfl
 | some l => rw [((trs_q c b l).1 hc).1] at hP; cases hP
theorem rt_end {b : List UInt8} {z : Int} {acc : List TrT} (hP : (trsQ (b.drop z.toNat)).map (acc ++ ·) = trsQ b) (h1 : ¬ z < b.length) (c : Int) (hc : 0 ≤ c) : (if decide ((acc.length : Int) = c) = true then some acc else none) = trsP c.toNat b := by
 rw [trsQ_nil (by rw [List.length_drop]; omega)] at hP
 have hP' : trsQ b = some acc := by rw [← hP]; simp
 split
 ·rename_i h
  rw [decide_eq_true_iff] at h
  exact ((trs_q c.toNat b acc).2 ⟨hP', by omega⟩).symm
 ·rename_i h
  rw [decide_eq_true_iff] at h
  cases hl : trsP c.toNat b with
  | none => rfl
  | some l =>
    have := (trs_q _ _ _).1 hl
    rw [hP'] at this
    obtain ⟨e1, e2⟩ := this
    cases e1
    omega
theorem rt_step {b : List UInt8} {z zq : Int} {acc aq : List TrT} {t i k : Int} (hP : (trsQ (b.drop z.toNat)).map (acc ++ ·) = trsQ b) (h0 : 0 ≤ z) (h1 : z < b.length) (hq : QtA b z 3 ∧ (attF (attA b z)).2 = true) (ha : 4 * (acc.length : Int) ≤ z)
    (ht : t = ((b.getD (z + 4).toNat 0).toNat : Int)) (hi : i = (numF b (z + 6) 2).1) (hk : k = (attF (attA b z)).1) (qa : acc ++ [(t, i, k, ())] = aq) (qz : z + (numF b (z + 2) 2).1 = zq) :
    (0 ≤ zq ∧ zq ≤ b.length ∧ (trsQ (b.drop zq.toNat)).map (aq ++ ·) = trsQ b ∧ 4 * (aq.length : Int) ≤ zq) ∧ ((b.length : Int) - zq).toNat < ((b.length : Int) - z).toNat := by
 have hd := (tr_at h0 h1).2 hq
 have hv := trv_eq hd
 have hA := att_at h0 hq.1.2.1
 obtain ⟨⟨g1, g2, g3, g4⟩, g5⟩ := hq
 rw [trsQ_eq (by rw [List.length_drop]; omega), if_pos hd, hv, hA] at hP
 obtain ⟨n, rfl⟩ := Int.eq_ofNat_of_zero_le h0
 have e1 := numF_drop2 b n 2 2
 have e2 := numF_drop2 b n 6 2
 have e3 := getD_drop2 b n 4
 simp only [Int.ofNat_zero, Int.cast_ofNat_Int, Nat.add_zero, Int.reduceAdd, Int.toNat_natCast] at e1 e2 e3 hP
 unfold trR at hP
 rw [e1, e2, e3, List.drop_drop] at hP
 subst ht hi hk qa qz
 refine ⟨⟨by omega, by omega, ?_, by simp only [List.length_append, List.length_cons, List.length_nil]; omega⟩, by omega⟩
 rw [← hP, show ((n : Int) + (numF b (n + 2) 2).1).toNat = n + (numF b (n + 2) 2).1.toNat by omega, show ((n : Int) + 4).toNat = n + 4 by omega]
 cases trsQ (List.drop (n + (numF b (n + 2) 2).1.toNat) b) with
 | none => rfl
 | some l => simp
theorem wri {x : Int} (h : -9223372036854775808 ≤ x ∧ x < 9223372036854775808) : (x + 9223372036854775808) % 18446744073709551616 - 9223372036854775808 = x := by omega
theorem qtA_no {b : List UInt8} {z mk : Int} (h : (b.length : Int) - z < 8 ∨ (numF b (z + 2) 2).1 < 8 ∨ (numF b (z + 2) 2).1 > (b.length : Int) - z ∨ (z + (numF b (z + 2) 2).1 = b.length ∧ ¬ ((b.getD z.toNat 0).toNat : Int) = 0) ∨ (¬ z + (numF b (z + 2) 2).1 = b.length ∧ ¬ ((b.getD z.toNat 0).toNat : Int) = mk)) : ¬ QtA b z mk := by
 rintro ⟨h1, h2, h3, h4⟩
 split at h4 <;> omega
theorem qtA_yes {b : List UInt8} {z mk : Int} (h1 : ¬ (b.length : Int) - z < 8) (h2 : ¬ (numF b (z + 2) 2).1 < 8) (h3 : ¬ (numF b (z + 2) 2).1 > (b.length : Int) - z) (h4 : (z + (numF b (z + 2) 2).1 = b.length ∧ ((b.getD z.toNat 0).toNat : Int) = 0) ∨ (¬ z + (numF b (z + 2) 2).1 = b.length ∧ ((b.getD z.toNat 0).toNat : Int) = mk)) : QtA b z mk := by
 refine ⟨by omega, by omega, by omega, ?_⟩
 split <;> omega
theorem rt_no1 {b : List UInt8} {z : Int} {acc : List TrT} (hP : (trsQ (b.drop z.toNat)).map (acc ++ ·) = trsQ b) (h0 : 0 ≤ z) (h1 : z < b.length) (h : ¬ QtA b z 3) (c : Nat) : none = trsP c b := rt_no hP h0 h1 (fun hq => h hq.1) c
theorem rt_no2 {b : List UInt8} {z : Int} {acc : List TrT} (hP : (trsQ (b.drop z.toNat)).map (acc ++ ·) = trsQ b) (h0 : 0 ≤ z) (h1 : z < b.length) (h : (!(attF (attA b z)).2) = true) (c : Nat) : none = trsP c b := rt_no hP h0 h1 (fun hq => by rw [hq.2] at h; cases h) c
theorem rt_end2 {b : List UInt8} {z : Int} {acc : List TrT} (hP : (trsQ (b.drop z.toNat)).map (acc ++ ·) = trsQ b) (h1 : ¬ z < b.length) (c : Int) (hc : 0 ≤ c) : (if (acc.length : Int) = c then some acc else none) = trsP c.toNat b := by
 rw [← rt_end hP h1 c hc]
 simp only [decide_eq_true_eq]
theorem wrb (x : UInt8) : ((x.toNat : Int) + 9223372036854775808) % 18446744073709551616 - 9223372036854775808 = (x.toNat : Int) := by have := x.toNat_lt; omega
abbrev spA (b : List UInt8) (z : Int) : Int := ((b.getD (z + 6).toNat 0).toNat : Int)
abbrev trA (b : List UInt8) (z : Int) : List UInt8 := (b.drop (z + 8 + spA b z).toNat).take ((z + (numF b (z + 2) 2).1).toNat - (z + 8 + spA b z).toNat)
abbrev siA (b : List UInt8) (z : Int) : List UInt8 := (b.drop (z + 8).toNat).take ((z + 8 + spA b z).toNat - (z + 8).toNat)
theorem pr_at {b : List UInt8} {z : Int} (h0 : 0 ≤ z) (h1 : z < b.length) : PrQ (b.drop z.toNat) ↔ QtA b z 2 ∧ 8 + spA b z ≤ (numF b (z + 2) 2).1 := by
 rw [prq_iff, qt_at h0 h1]
 obtain ⟨k, rfl⟩ := Int.eq_ofNat_of_zero_le h0
 have e1 := numF_drop2 b k 2 2
 have e3 := getD_drop2 b k 6
 simp only [Int.ofNat_zero, Int.cast_ofNat_Int, Nat.add_zero, Int.reduceAdd, Int.toNat_natCast] at e1 e3 ⊢
 rw [e1, e3]
 unfold spA
 rw [show ((k : Int) + 6).toNat = k + 6 by omega]
theorem prP_at {b : List UInt8} {z : Int} (h0 : 0 ≤ z) (h1 : z < b.length) (hq : QtA b z 2) (hs : 8 + spA b z ≤ (numF b (z + 2) 2).1) :
    prP (b.drop z.toNat) = (trsP (b.getD (z + 7).toNat 0).toNat (trA b z)).map fun ts => (((b.getD (z + 4).toNat 0).toNat : Int), ((b.getD (z + 5).toNat 0).toNat : Int), siA b z, ts, ()) := by
 have hd := (pr_at h0 h1).2 ⟨hq, hs⟩
 unfold prP
 rw [if_pos hd.1]
 obtain ⟨g1, g2, g3, g4⟩ := hq
 obtain ⟨k, rfl⟩ := Int.eq_ofNat_of_zero_le h0
 rw [Int.toNat_natCast]
 have hn : numF (b.drop k) 2 2 = numF b (k + 2) 2 := numF_drop2 b k 2 2
 obtain ⟨n, hnn⟩ := Int.eq_ofNat_of_zero_le (show 0 ≤ (numF b (k + 2) 2).1 by omega)
 obtain ⟨s, hss⟩ : ∃ s : Nat, s = (b.getD (k + 6) 0).toNat := ⟨_, rfl⟩
 have hl : (b.drop k).length = b.length - k := List.length_drop
 have q4 : 4 ≤ (numF (b.drop k) 2 2).1 := by rw [hn]; omega
 have q5 : (numF (b.drop k) 2 2).1 ≤ (b.drop k).length := by rw [hn, hl]; omega
 have x1 : (numF (prI (b.drop k)) 0 1).1 = ((b.getD (k + 4) 0).toNat : Int) := by
  have e := numF_prI (d := b.drop k) 0 1 q4 q5 (by rw [hn]; omega)
  have e2 := num1_at (b.drop k) 4 (by rw [hl]; omega)
  rw [getD_drop2] at e2
  rw [← e2]
  exact congrArg (·.1) e
 have x2 : (numF (prI (b.drop k)) 1 1).1 = ((b.getD (k + 5) 0).toNat : Int) := by
  have e := numF_prI (d := b.drop k) 1 1 q4 q5 (by rw [hn]; omega)
  have e2 := num1_at (b.drop k) 5 (by rw [hl]; omega)
  rw [getD_drop2] at e2
  rw [← e2]
  exact congrArg (·.1) e
 have x3 : (numF (prI (b.drop k)) 2 1).1 = ((b.getD (k + 6) 0).toNat : Int) := by
  have e := numF_prI (d := b.drop k) 2 1 q4 q5 (by rw [hn]; omega)
  have e2 := num1_at (b.drop k) 6 (by rw [hl]; omega)
  rw [getD_drop2] at e2
  rw [← e2]
  exact congrArg (·.1) e
 have x4 : (numF (prI (b.drop k)) 3 1).1 = ((b.getD (k + 7) 0).toNat : Int) := by
  have e := numF_prI (d := b.drop k) 3 1 q4 q5 (by rw [hn]; omega)
  have e2 := num1_at (b.drop k) 7 (by rw [hl]; omega)
  rw [getD_drop2] at e2
  rw [← e2]
  exact congrArg (·.1) e
 unfold prSpi prT
 rw [x1, x2, x3, x4, prI_eq q4 q5, hn]
 simp only [spA, trA, siA] at hs ⊢
 rw [show ((k : Int) + 4).toNat = k + 4 by omega, show ((k : Int) + 5).toNat = k + 5 by omega, show ((k : Int) + 6).toNat = k + 6 by omega, show ((k : Int) + 7).toNat = k + 7 by omega] at *
 rw [← hss] at hs ⊢
 rw [hnn] at hs g2 g3 ⊢
 rw [Int.toNat_natCast, Int.toNat_natCast]
 have y1 : cutF (List.drop 4 (List.take ((n : Int) - 4).toNat (List.drop 4 (List.drop k b)))) 0 (s : Int) = List.take (((k : Int) + 8 + s).toNat - ((k : Int) + 8).toNat) (List.drop ((k : Int) + 8).toNat b) := by
  rw [cutF_0 (by omega) (by simp only [List.length_drop, List.length_take]; omega), List.drop_take, List.drop_drop, List.drop_drop, List.take_take, Int.toNat_natCast]
  rw [show ((k : Int) + 8 + s).toNat - ((k : Int) + 8).toNat = s by omega, show ((k : Int) + 8).toNat = k + 4 + 4 by omega, Nat.min_eq_left (by omega)]
 have y2 : List.drop (4 + s) (List.take ((n : Int) - 4).toNat (List.drop 4 (List.drop k b))) = List.take (((k : Int) + n).toNat - ((k : Int) + 8 + s).toNat) (List.drop ((k : Int) + 8 + s).toNat b) := by
  rw [List.drop_take, List.drop_drop, List.drop_drop]
  rw [show ((k : Int) + 8 + s).toNat = k + 4 + (4 + s) by omega, show ((k : Int) + n).toNat - (k + 4 + (4 + s)) = ((n : Int) - 4).toNat - (4 + s) by omega, show k + (4 + (4 + s)) = k + 4 + (4 + s) by omega]
 rw [y1, y2]
theorem rp_no {b : List UInt8} {z : Int} {acc : List PrT} (hP : (prsQ (b.drop z.toNat)).map (acc ++ ·) = prsQ b) (h0 : 0 ≤ z) (h1 : z < b.length) (h : QtA b z 2 → 8 + spA b z ≤ (numF b (z + 2) 2).1 → trsP (b.getD (z + 7).toNat 0).toNat (trA b z) = none) : none = prsQ b := by
 rw [prsQ_eq (by rw [List.length_drop]; omega)] at hP
 by_cases hd : PrQ (b.drop z.toNat)
 ·obtain ⟨h2, h3⟩ := (pr_at h0 h1).1 hd
  rw [if_pos hd, prP_at h0 h1 h2 h3, h h2 h3] at hP
  exact hP
 ·rw [if_neg hd] at hP
  exact hP
theorem rp_no1 {b : List UInt8} {z : Int} {acc : List PrT} (hP : (prsQ (b.drop z.toNat)).map (acc ++ ·) = prsQ b) (h0 : 0 ≤ z) (h1 : z < b.length) (h : ¬ QtA b z 2) : none = prsQ b := rp_no hP h0 h1 fun h2 _ => absurd h2 h
theorem rp_no2 {b : List UInt8} {z : Int} {acc : List PrT} (hP : (prsQ (b.drop z.toNat)).map (acc ++ ·) = prsQ b) (h0 : 0 ≤ z) (h1 : z < b.length) (h : 8 + spA b z > (numF b (z + 2) 2).1) : none = prsQ b := rp_no hP h0 h1 fun _ h3 => by omega
theorem rp_no3 {b : List UInt8} {z : Int} {acc : List PrT} {l : List TrT} {ok : Bool} {c : Nat} (hP : (prsQ (b.drop z.toNat)).map (acc ++ ·) = prsQ b) (h0 : 0 ≤ z) (h1 : z < b.length) (h : (if ok = true then some l else none) = trsP c (trA b z)) (hc : c = (b.getD (z + 7).toNat 0).toNat) (ho : (!ok) = true) : none = prsQ b := rp_no hP h0 h1 fun _ _ => by
 have : ok = false := by simpa using ho
 rw [this] at h
 rw [← hc, ← h]
 rfl
theorem rp_end {b : List UInt8} {z : Int} {acc : List PrT} (hP : (prsQ (b.drop z.toNat)).map (acc ++ ·) = prsQ b) (h1 : ¬ z < b.length) : some acc = prsQ b := by
 rw [← hP, prsQ_nil (by rw [List.length_drop]; omega)]
 simp
theorem rp_step {b : List UInt8} {z zq : Int} {acc aq : List PrT} {l : List TrT} {ok : Bool} {c : Nat} {u v : Int} {si : List UInt8} (hP : (prsQ (b.drop z.toNat)).map (acc ++ ·) = prsQ b) (h0 : 0 ≤ z) (h1 : z < b.length) (hq : QtA b z 2) (hs : ¬ 8 + spA b z > (numF b (z + 2) 2).1) (ha : 8 * (acc.length : Int) ≤ z)
    (h : (if ok = true then some l else none) = trsP c (trA b z)) (hc : c = (b.getD (z + 7).toNat 0).toNat) (ho : (!ok) = false) (hu : u = ((b.getD (z + 4).toNat 0).toNat : Int)) (hv : v = ((b.getD (z + 5).toNat 0).toNat : Int)) (hi : si = siA b z) (qa : acc ++ [(u, v, si, l, ())] = aq) (qz : z + (numF b (z + 2) 2).1 = zq) :
    (0 ≤ zq ∧ zq ≤ b.length ∧ (prsQ (b.drop zq.toNat)).map (aq ++ ·) = prsQ b ∧ 8 * (aq.length : Int) ≤ zq) ∧ ((b.length : Int) - zq).toNat < ((b.length : Int) - z).toNat := by
 have hok : ok = true := by simpa using ho
 rw [hok, if_pos rfl] at h
 rw [prsQ_eq (by rw [List.length_drop]; omega), if_pos ((pr_at h0 h1).2 ⟨hq, by omega⟩), prP_at h0 h1 hq (by omega), ← hc, ← h] at hP
 obtain ⟨g1, g2, g3, g4⟩ := hq
 simp only [Option.map_some] at hP
 obtain ⟨n, rfl⟩ := Int.eq_ofNat_of_zero_le h0
 have e1 : numF (b.drop n) 2 2 = numF b (n + 2) 2 := numF_drop2 b n 2 2
 unfold prR at hP
 rw [Int.toNat_natCast, e1, List.drop_drop] at hP
 subst hu hv hi qa qz
 refine ⟨⟨by omega, by omega, ?_, by simp only [List.length_append, List.length_cons, List.length_nil]; omega⟩, by omega⟩
 rw [← hP, show ((n : Int) + (numF b (n + 2) 2).1).toNat = n + (numF b (n + 2) 2).1.toNat by omega]
 cases prsQ (List.drop (n + (numF b (n + 2) 2).1.toNat) b) with
 | none => rfl
 | some l => simp
end Go.Proofs.Ytkeefgiajogkkaa.V
