/- Message: which payloads may occur twice (pure). -/
import Derived.Test.YtbdfijdianaghaaVs
set_option linter.unusedVariables false
set_option linter.unusedSimpArgs false
namespace Go.Proofs.Ytbdfijdianaghaa.V
open Go.RowKit
set_option maxHeartbeats 8000000
def cntI (t : Nat → Int) (k : Int) : Nat → Int
 | 0 => 0
 | n + 1 => cntI t k n + (if t n = k then 1 else 0)
def anyI (p : Nat → Bool) : Nat → Bool
 | 0 => false
 | n + 1 => anyI p n || p n
theorem anyI_iff {p : Nat → Bool} {n : Nat} : anyI p n = true ↔ ∃ i, i < n ∧ p i = true := by
 induction n with
 | zero => exact ⟨fun h => (by cases h), fun ⟨i, h, _⟩ => (by omega)⟩
 | succ n ih =>
   simp only [anyI, Bool.or_eq_true, ih]
   constructor
   ·rintro (⟨i, h1, h2⟩ | h)
    ·exact ⟨i, by omega, h2⟩
    ·exact ⟨n, by omega, h⟩
   ·rintro ⟨i, h1, h2⟩
    rcases (by omega : i < n ∨ i = n) with h | h
    ·exact .inl ⟨i, h, h2⟩
    ·subst h; exact .inr h2
theorem anyI_no {p : Nat → Bool} {n : Nat} : anyI p n = false ↔ ∀ i, i < n → p i = false := by
 constructor
 ·intro h i hi
  cases e : p i with
  | false => rfl
  | true =>
    rw [anyI_iff.2 ⟨i, hi, e⟩] at h
    cases h
 ·intro h
  cases e : anyI p n with
  | false => rfl
  | true =>
    obtain ⟨i, h1, h2⟩ := anyI_iff.1 e
    rw [h i h1] at h2
    cases h2
theorem cntI_rng (t : Nat → Int) (k : Int) (n : Nat) : 0 ≤ cntI t k n ∧ cntI t k n ≤ n := by
 induction n with
 | zero => exact ⟨by rw [cntI]; omega, by rw [cntI]; omega⟩
 | succ n ih => rw [cntI]; split <;> omega
theorem cntI_cg {t s : Nat → Int} {k : Int} {n : Nat} (h : ∀ i, i < n → t i = s i) : cntI t k n = cntI s k n := by
 induction n with
 | zero => rfl
 | succ n ih => rw [cntI, cntI, ih (fun i hi => h i (by omega)), h n (by omega)]
theorem cntI_pos {t : Nat → Int} {k : Int} {n i : Nat} (hi : i < n) (h : t i = k) : 1 ≤ cntI t k n := by
 induction n with
 | zero => omega
 | succ n ih =>
   have := cntI_rng t k n
   rw [cntI]
   rcases (by omega : i < n ∨ i = n) with e | e
   ·have := ih e
    split <;> omega
   ·subst e
    rw [if_pos h]
    omega
theorem cntI_zero {t : Nat → Int} {k : Int} {n : Nat} (h : ∀ i, i < n → t i ≠ k) : cntI t k n = 0 := by
 induction n with
 | zero => rfl
 | succ n ih => rw [cntI, ih (fun i hi => h i (by omega)), if_neg (h n (by omega))]; rfl
theorem cntI_no {t : Nat → Int} {k : Int} {n : Nat} (h : cntI t k n = 0) (i : Nat) (hi : i < n) : t i ≠ k := fun e => by
 have := cntI_pos hi e
 omega
def freeT (k : Int) : Bool := k == 41 || k == 43 || k == 37 || k == 42
def sealT (k : Int) : Bool := k == 46 || k == 53
def twI (t : Nat → Int) (N n : Nat) : Bool := anyI (fun i => !freeT (t i) && decide (1 < cntI t (t i) N)) n
def hidI (t : Nat → Int) (n : Nat) : Bool := anyI (fun i => sealT (t i)) n
def faiI (t w : Nat → Int) (n : Nat) : Bool := anyI (fun i => t i == 41 && decide (w i < 16384)) n
def cooI (t w : Nat → Int) (n : Nat) : Bool := anyI (fun i => t i == 41 && w i == 16390) n
def needT (q : Bool) (x : Int) : List Int :=
 if x = 34 then [33, 34, 40] else if x = 35 then [if q then 35 else 36, 39, 33, 44, 45] else if x = 36 then [33, 40] else []
def chaI (t w : Nat → Int) (n : Nat) : Bool := cooI t w n && decide (cntI t 41 n + cntI t 43 n = n)
def comI (q : Bool) (x : Int) (t w : Nat → Int) (n : Nat) : Bool :=
 if (needT q x).all (fun k => !(cntI t k n == 0)) then true else decide (x = 34) && chaI t w n
def chkI (q : Bool) (x : Int) (t w : Nat → Int) (n : Nat) : Int :=
 if twI t n n then 9
 else if hidI t n && decide (1 < n) then 7
 else if hidI t n || faiI t w n then 0
 else if !comI q x t w n || !(cntI t 44 n == cntI t 45 n) then 8 else 0
theorem twI_app {t s : Nat → Int} {n : Nat} (hs : ∀ i, i < n → s i = t i) (hk : twI t n n = false) (hn : freeT (s n) = true ∨ cntI t (s n) n = 0) : twI s (n + 1) (n + 1) = false := by
 unfold twI at *
 rw [anyI_no] at *
 intro i hi
 by_cases hf : freeT (s i) = true
 ·rw [hf]; rfl
 ·have hf2 : freeT (s i) = false := by simpa using hf
  rw [hf2]
  have e : cntI s (s i) (n + 1) = cntI t (s i) n + (if s n = s i then 1 else 0) := by rw [cntI, cntI_cg hs]
  rw [e]
  rcases (by omega : i < n ∨ i = n) with h | h
  ·have k := hk i h
   rw [← hs i h, hf2] at k
   have k2 : ¬ 1 < cntI t (s i) n := by simpa using k
   have k3 := cntI_pos h (hs i h).symm
   by_cases hq : s n = s i
   ·rcases hn with hn | hn
    ·rw [hq, hf2] at hn; cases hn
    ·rw [hq] at hn; omega
   ·rw [if_neg hq]
    simp only [Bool.not_false, Bool.true_and, decide_eq_false_iff_not]
    omega
  ·subst h
   rcases hn with hn | hn
   ·rw [hf2] at hn; cases hn
   ·rw [hn, if_pos rfl]; rfl
theorem free_not {k : Int} (h : freeT k = true) : k = 41 ∨ k = 43 ∨ k = 37 ∨ k = 42 := by
 unfold freeT at h
 simp only [Bool.or_eq_true, beq_iff_eq] at h
 omega
theorem anyI_app {p q : Nat → Bool} {n : Nat} (h : ∀ i, i < n → q i = p i) (hn : q n = true → anyI p n = true) : anyI q (n + 1) = anyI p n := by
 rw [anyI]
 have e : anyI q n = anyI p n := by
  clear hn
  induction n with
  | zero => rfl
  | succ n ih => rw [anyI, anyI, ih (fun i hi => h i (by omega)), h n (by omega)]
 rw [e]
 cases hq : q n with
 | false => rw [Bool.or_false]
 | true => rw [hn hq]; rfl
theorem rep_free {q : Bool} {x : Int} {t s w v : Nat → Int} {n j : Nat} (hs : ∀ i, i < n → s i = t i) (hw : ∀ i, i < n → v i = w i) (hj : j < n) (h1 : s n = t j) (h2 : v n = w j) (hns : hidI t n = false) (hf : freeT (s n) = true) (hc : chkI q x t w n = 0) : chkI q x s v (n + 1) = 0 := by
 unfold chkI at *
 have a : twI t n n = false := by
  cases e : twI t n n with
  | false => rfl
  | true => rw [e, if_pos rfl] at hc; cases hc
 rw [a, if_neg (by decide), hns] at hc
 simp only [Bool.false_and, Bool.false_or, Bool.false_eq_true, if_false] at hc
 rw [twI_app hs a (.inl hf), if_neg (by decide)]
 have b : hidI s (n + 1) = false := by
  rw [show hidI s (n + 1) = hidI t n from anyI_app (fun i hi => by rw [hs i hi]) (fun h => by
   exfalso
   rcases free_not hf with e | e | e | e <;> · rw [e] at h; exact absurd h (by decide))]
  exact hns
 rw [b]
 simp only [Bool.false_and, Bool.false_or, Bool.false_eq_true, if_false]
 have c : faiI s v (n + 1) = faiI t w n := anyI_app (fun i hi => by rw [hs i hi, hw i hi]) (fun h => by
  rw [anyI_iff]
  exact ⟨j, hj, by rw [← h1, ← h2]; exact h⟩)
 rw [c]
 cases hfa : faiI t w n with
 | true => rfl
 | false =>
   rw [hfa] at hc
   simp only [Bool.false_eq_true, if_false] at hc ⊢
   have d : ∀ k, k ≠ 41 → k ≠ 43 → k ≠ 37 → k ≠ 42 → cntI s k (n + 1) = cntI t k n := fun k k1 k2 k3 k4 => by
    rw [cntI, cntI_cg hs, if_neg (by rcases free_not hf with e | e | e | e <;> omega)]
    omega
   have e4 : cntI s 44 (n + 1) = cntI t 44 n := d 44 (by decide) (by decide) (by decide) (by decide)
   have e5 : cntI s 45 (n + 1) = cntI t 45 n := d 45 (by decide) (by decide) (by decide) (by decide)
   rw [e4, e5]
   have hcom : comI q x t w n = true := by
    cases e : comI q x t w n with
    | true => rfl
    | false => rw [e] at hc; simp at hc
   have h45 : (cntI t 44 n == cntI t 45 n) = true := by
    cases e : (cntI t 44 n == cntI t 45 n) with
    | true => rfl
    | false => rw [e] at hc; simp at hc
   rw [h45]
   have f : comI q x s v (n + 1) = true := by
    have hall : (needT q x).all (fun k => !(cntI s k (n + 1) == 0)) = (needT q x).all (fun k => !(cntI t k n == 0)) := by
     have hm : ∀ k ∈ needT q x, k ≠ 41 ∧ k ≠ 43 ∧ k ≠ 37 ∧ k ≠ 42 := by
      intro k hk
      unfold needT at hk
      split at hk
      ·simp only [List.mem_cons, List.not_mem_nil, or_false] at hk; omega
      ·split at hk
       ·cases q <;> simp only [List.mem_cons, List.not_mem_nil, or_false, if_true, Bool.false_eq_true, if_false] at hk <;> omega
       ·split at hk
        ·simp only [List.mem_cons, List.not_mem_nil, or_false] at hk; omega
        ·cases hk
     generalize needT q x = L at *
     induction L with
     | nil => rfl
     | cons k L ih =>
       obtain ⟨m1, m2, m3, m4⟩ := hm k List.mem_cons_self
       rw [List.all_cons, List.all_cons, d k m1 m2 m3 m4, ih (fun y hy => hm y (List.mem_cons_of_mem _ hy))]
    unfold comI at hcom ⊢
    rw [hall]
    split
    ·rfl
    ·rename_i hne
     rw [if_neg hne] at hcom
     rw [Bool.and_eq_true] at hcom ⊢
     refine ⟨hcom.1, ?_⟩
     have ch := hcom.2
     unfold chaI at ch ⊢
     rw [Bool.and_eq_true, decide_eq_true_iff] at ch ⊢
     refine ⟨?_, ?_⟩
     ·have k := anyI_iff.1 ch.1
      obtain ⟨i, k1, k2⟩ := k
      exact anyI_iff.2 ⟨i, by omega, by rw [hs i k1, hw i k1]; exact k2⟩
     ·have hsum : ∀ m : Nat, m ≤ n → cntI t 41 m + cntI t 43 m ≤ m := fun m _ => by
        induction m with
        | zero => simp only [cntI]; omega
        | succ m ih =>
          have := ih (by omega)
          simp only [cntI]
          split <;> split <;> omega
      have hall2 : ∀ m : Nat, m ≤ n → cntI t 41 m + cntI t 43 m = m → ∀ i, i < m → t i = 41 ∨ t i = 43 := fun m hm => by
       induction m with
       | zero => exact fun _ i hi => by omega
       | succ m ih =>
         intro hs2 i hi
         have b1 := hsum m (by omega)
         simp only [cntI] at hs2
         by_cases e1 : t m = 41
         ·rcases (by omega : i < m ∨ i = m) with hi2 | hi2
          ·rw [if_pos e1, if_neg (by omega)] at hs2
           exact ih (by omega) (by omega) i hi2
          ·subst hi2; exact .inl e1
         ·by_cases e2 : t m = 43
          ·rcases (by omega : i < m ∨ i = m) with hi2 | hi2
           ·rw [if_neg e1, if_pos e2] at hs2
            exact ih (by omega) (by omega) i hi2
           ·subst hi2; exact .inr e2
          ·rw [if_neg e1, if_neg e2] at hs2; omega
      have ht := hall2 n (by omega) ch.2 j hj
      simp only [cntI]
      rw [cntI_cg hs, cntI_cg hs, h1]
      rcases ht with ht | ht <;> rw [ht] <;> simp only [if_true, show ¬ ((41 : Int) = 43) by decide, show ¬ ((43 : Int) = 41) by decide, if_false] <;> omega
   rw [f]
   rfl
theorem rep_twice {q : Bool} {x : Int} {t s w v : Nat → Int} {n j : Nat} (hs : ∀ i, i < n → s i = t i) (hj : j < n) (h1 : s n = t j) (hf : freeT (s n) = false) : chkI q x s v (n + 1) = 9 := by
 unfold chkI
 rw [if_pos]
 unfold twI
 rw [anyI_iff]
 refine ⟨n, by omega, ?_⟩
 rw [hf]
 simp only [Bool.not_false, Bool.true_and, decide_eq_true_iff]
 rw [cntI, cntI_cg hs, if_pos rfl]
 have := cntI_pos (t := t) hj h1.symm
 omega
theorem rep_seal {q : Bool} {x : Int} {t s w v : Nat → Int} {n : Nat} (hs : ∀ i, i < n → s i = t i) (hn : 0 < n) (hns : hidI t n = false) (hf : sealT (s n) = true) (hc : chkI q x t w n = 0) : chkI q x s v (n + 1) = 7 := by
 unfold chkI at *
 have a : twI t n n = false := by
  cases e : twI t n n with
  | false => rfl
  | true => rw [e, if_pos rfl] at hc; cases hc
 have z : cntI t (s n) n = 0 := cntI_zero fun i hi e => by
  have := anyI_no.1 hns i hi
  rw [e, hf] at this
  cases this
 rw [twI_app hs a (.inr z), if_neg (by decide), if_pos]
 rw [Bool.and_eq_true, decide_eq_true_iff]
 exact ⟨anyI_iff.2 ⟨n, by omega, hf⟩, by omega⟩
end Go.Proofs.Ytbdfijdianaghaa.V
