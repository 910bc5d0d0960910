/- Primes: Euclid's lemma, Fermat's little theorem, Pocklington's criterion (pure). 2^255 - 19 is prime (pure; printed by wip/genpri.py). -/
import Derived.Test.YtihnagafldpbnaaVs
set_option linter.unusedVariables false
set_option linter.unusedSimpArgs false
namespace Go.Proofs.Ytihnagafldpbnaa.V
set_option maxHeartbeats 8000000
set_option maxRecDepth 100000
/-- A prime number. -/
structure Pri (p : Nat) : Prop where
  two : 2 ≤ p
  dv : ∀ m, m ∣ p → m = 1 ∨ m = p
theorem Pri.cop {p a : Nat} (h : Pri p) (ha : ¬ p ∣ a) : Nat.gcd p a = 1 := by
  rcases h.dv _ (Nat.gcd_dvd_left p a) with e | e
  · exact e
  · exact absurd (e ▸ Nat.gcd_dvd_right p a) ha
theorem Pri.euc {p a b : Nat} (h : Pri p) (hd : p ∣ a * b) : p ∣ a ∨ p ∣ b := by
  by_cases ha : p ∣ a
  · exact Or.inl ha
  · exact Or.inr (Nat.Coprime.dvd_of_dvd_mul_left (h.cop ha) hd)
/-! Binomials. -/
def chN : Nat → Nat → Nat
  | _, 0 => 1
  | 0, _ + 1 => 0
  | n + 1, k + 1 => chN n k + chN n (k + 1)
theorem chN_0 (n : Nat) : chN n 0 = 1 := by cases n <;> rfl
theorem chN_s (n k : Nat) : chN (n + 1) (k + 1) = chN n k + chN n (k + 1) := rfl
theorem chN_gt (n k : Nat) (h : n < k) : chN n k = 0 := by
  induction n generalizing k with
  | zero => cases k with
    | zero => omega
    | succ k => rfl
  | succ n ih => cases k with
    | zero => omega
    | succ k => rw [chN_s, ih k (by omega), ih (k + 1) (by omega)]
theorem chN_n (n : Nat) : chN n n = 1 := by
  induction n with
  | zero => rfl
  | succ n ih => rw [chN_s, ih, chN_gt n (n + 1) (by omega)]
theorem chN_mul (n k : Nat) : (k + 1) * chN (n + 1) (k + 1) = (n + 1) * chN n k := by
  induction n generalizing k with
  | zero => cases k with
    | zero => rfl
    | succ k => simp [chN]
  | succ n ih => cases k with
    | zero =>
      have h := ih 0
      have e1 : chN (n + 1) 1 = chN n 0 + chN n 1 := rfl
      have e2 : chN (n + 1 + 1) 1 = chN (n + 1) 0 + chN (n + 1) 1 := rfl
      rw [chN_0] at *
      simp only [Nat.zero_add, Nat.one_mul, Nat.mul_one] at *
      omega
    | succ k =>
      have h1 := ih k
      have h2 := ih (k + 1)
      rw [chN_s (n + 1) (k + 1)]
      rw [chN_s n k] at *
      grind
def bsum (n a : Nat) : Nat → Nat
  | 0 => 0
  | m + 1 => bsum n a m + chN n m * a ^ m
theorem bsum_s (n a m : Nat) : bsum (n + 1) a (m + 1) = bsum n a (m + 1) + a * bsum n a m := by
  induction m with
  | zero => simp [bsum, chN_0]
  | succ m ih =>
    rw [bsum, ih, chN_s]
    simp only [bsum, Nat.pow_succ]
    grind
theorem binom (n a : Nat) : (a + 1) ^ n = bsum n a (n + 1) := by
  induction n with
  | zero => rfl
  | succ n ih =>
    rw [bsum_s, Nat.pow_succ, ih]
    rw [show bsum n a (n + 1 + 1) = bsum n a (n + 1) + chN n (n + 1) * a ^ (n + 1) from rfl, chN_gt n (n + 1) (by omega)]
    grind
theorem Pri.ch {p : Nat} (h : Pri p) (k : Nat) (h0 : 0 < k) (h1 : k < p) : p ∣ chN p k := by
  obtain ⟨n, rfl⟩ : ∃ n, p = n + 1 := ⟨p - 1, by have := h.two; omega⟩
  obtain ⟨j, rfl⟩ : ∃ j, k = j + 1 := ⟨k - 1, by omega⟩
  have e := chN_mul n j
  rcases h.euc (show (n + 1) ∣ (j + 1) * chN (n + 1) (j + 1) from e ▸ Nat.dvd_mul_right _ _) with d | d
  · exact absurd (Nat.le_of_dvd (by omega) d) (by omega)
  · exact d
theorem Pri.bs {p : Nat} (h : Pri p) (a m : Nat) (hm : m < p) : bsum p a (m + 1) % p = 1 := by
  induction m with
  | zero =>
    simp only [bsum, chN_0, Nat.pow_zero, Nat.mul_one, Nat.zero_add]
    exact Nat.mod_eq_of_lt h.two
  | succ m ih =>
    obtain ⟨c, hc⟩ := h.ch (m + 1) (by omega) hm
    rw [bsum, hc, Nat.mul_assoc, Nat.add_mul_mod_self_left, ih (by omega)]
theorem Pri.fermat {p : Nat} (h : Pri p) (a : Nat) : a ^ p % p = a % p := by
  induction a with
  | zero => rw [Nat.zero_pow (by have := h.two; omega)]
  | succ a ih =>
    have e := h.bs a (p - 1) (by have := h.two; omega)
    rw [show p - 1 + 1 = p by have := h.two; omega] at e
    rw [binom, bsum, chN_n, Nat.one_mul, Nat.add_mod, e, ih, Nat.add_mod_mod, Nat.add_comm]
/-! Pocklington's criterion. -/
theorem Pri.fermat1 {p : Nat} (h : Pri p) {a : Nat} (ha : ¬ p ∣ a) : a ^ (p - 1) % p = 1 % p := by
  have e := h.fermat a
  have h2 := h.two
  obtain ⟨n, rfl⟩ : ∃ n, p = n + 1 := ⟨p - 1, by omega⟩
  rw [show n + 1 - 1 = n from rfl]
  have hpos : 1 ≤ a ^ n := Nat.pow_pos (Nat.pos_of_ne_zero (fun e => ha (e ▸ Nat.dvd_zero _)))
  have d : (n + 1) ∣ a * (a ^ n - 1) := by
    rw [Nat.mul_sub, Nat.mul_one, Nat.mul_comm, ← Nat.pow_succ]
    exact Nat.dvd_of_mod_eq_zero (Nat.sub_mod_eq_zero_of_mod_eq e)
  rcases h.euc d with k | k
  · exact absurd k ha
  · obtain ⟨c, hc⟩ := k
    rw [show a ^ n = 1 + (n + 1) * c by omega, Nat.add_mul_mod_self_left]
theorem pow_gcd {r b : Nat} (m n : Nat) (hm : b ^ m % r = 1 % r) (hn : b ^ n % r = 1 % r) : b ^ Nat.gcd m n % r = 1 % r := by
  induction m, n using Nat.gcd.induction with
  | H0 n => rw [Nat.gcd_zero_left]; exact hn
  | H1 m n h0 ih =>
    rw [Nat.gcd_rec]
    apply ih _ hm
    have e : b ^ n = (b ^ m) ^ (n / m) * b ^ (n % m) := by rw [← Nat.pow_mul, ← Nat.pow_add, Nat.div_add_mod]
    rw [e, Nat.mul_mod, Nat.pow_mod, hm, ← Nat.pow_mod, Nat.one_pow, ← Nat.mul_mod, Nat.one_mul] at hn
    exact hn
theorem pri_dvd (n : Nat) (h : 2 ≤ n) : ∃ r, Pri r ∧ r ∣ n := by
  induction n using Nat.strongRecOn with
  | _ n ih =>
    by_cases hp : ∀ m, m ∣ n → m = 1 ∨ m = n
    · exact ⟨n, ⟨h, hp⟩, Nat.dvd_refl _⟩
    · have ⟨m, hm⟩ := Classical.not_forall.1 hp
      have hd : m ∣ n := Classical.byContradiction fun k => hm fun d => absurd d k
      have h1 : m ≠ 1 := fun e => hm fun _ => Or.inl e
      have h2 : m ≠ n := fun e => hm fun _ => Or.inr e
      have h3 := Nat.le_of_dvd (by omega) hd
      have h4 : m ≠ 0 := fun e => by subst e; have := Nat.eq_zero_of_zero_dvd hd; omega
      obtain ⟨r, hr, hrm⟩ := ih m (by omega) (by omega)
      exact ⟨r, hr, Nat.dvd_trans hrm hd⟩
theorem Pri.of_big {N F : Nat} (h2 : 2 ≤ N) (hF : N < F * F) (h : ∀ r, Pri r → r ∣ N → F ∣ r - 1) : Pri N := by
  refine ⟨h2, fun m hm => ?_⟩
  obtain ⟨k, hk⟩ := hm
  apply Classical.byContradiction
  intro hne
  have m1 : m ≠ 1 := fun e => hne (Or.inl e)
  have m2 : m ≠ N := fun e => hne (Or.inr e)
  have m0 : m ≠ 0 := fun e => by subst e; simp at hk; omega
  have k0 : k ≠ 0 := fun e => by subst e; simp at hk; omega
  have k1 : k ≠ 1 := fun e => by subst e; simp at hk; omega
  obtain ⟨r, hr, hrm⟩ := pri_dvd m (by omega)
  obtain ⟨s, hs, hsk⟩ := pri_dvd k (by omega)
  have a1 := Nat.le_of_dvd (by have := hr.two; omega) (h r hr (Nat.dvd_trans hrm ⟨k, hk⟩))
  have a2 := Nat.le_of_dvd (by have := hs.two; omega) (h s hs (Nat.dvd_trans hsk ⟨m, by rw [hk, Nat.mul_comm]⟩))
  have b1 := Nat.le_of_dvd (by omega) hrm
  have b2 := Nat.le_of_dvd (by omega) hsk
  have := Nat.mul_le_mul (show F ≤ m by omega) (show F ≤ k by omega)
  omega
theorem dvd_pw (b f : Nat) (h : 1 ≤ f) : b ∣ b ^ f := by
  obtain ⟨g, rfl⟩ : ∃ g, f = g + 1 := ⟨f - 1, by omega⟩
  exact ⟨b ^ g, by rw [Nat.pow_succ, Nat.mul_comm]⟩
theorem pock {N f a : Nat} (hf : Pri f) (hN : 2 ≤ N) (hd : f ∣ N - 1) (h1 : a ^ (N - 1) % N = 1 % N) (h2 : Nat.gcd (a ^ ((N - 1) / f) % N + (N - 1)) N = 1) {r : Nat} (hr : Pri r) (hrN : r ∣ N) : f ∣ r - 1 := by
  apply Classical.byContradiction
  intro hn
  have hg := hf.cop hn
  have hb : (a ^ ((N - 1) / f)) ^ f % r = 1 % r := by
    rw [← Nat.pow_mul, Nat.div_mul_cancel hd, ← Nat.mod_mod_of_dvd _ hrN, h1, Nat.mod_mod_of_dvd _ hrN]
  generalize a ^ ((N - 1) / f) = b at *
  have hrb : ¬ r ∣ b := fun hd' => by
    have e : b ^ f % r = 0 := Nat.mod_eq_zero_of_dvd (Nat.dvd_trans hd' (dvd_pw b f (by have := hf.two; omega)))
    rw [e, Nat.mod_eq_of_lt hr.two] at hb
    omega
  have k := pow_gcd _ _ hb (hr.fermat1 hrb)
  rw [hg, Nat.pow_one] at k
  have hd2 : r ∣ b % N + (N - 1) := by
    apply Nat.dvd_of_mod_eq_zero
    rw [Nat.add_mod, Nat.mod_mod_of_dvd _ hrN, k, ← Nat.add_mod, show 1 + (N - 1) = N by omega]
    exact Nat.mod_eq_zero_of_dvd hrN
  have := Nat.dvd_gcd hd2 hrN
  rw [h2] at this
  have := Nat.le_of_dvd (by omega) this
  have := hr.two
  omega
def pmB (N : Nat) : Nat → Nat → Nat → Nat
  | 0, _, _ => 1 % N
  | k + 1, b, e => if e % 2 = 1 then pmB N k (b * b % N) (e / 2) * b % N else pmB N k (b * b % N) (e / 2)
theorem pmB_eq (N k b e : Nat) (h : e < 2 ^ k) : pmB N k b e = b ^ e % N := by
  induction k generalizing b e with
  | zero =>
    have : e = 0 := by simpa using h
    subst this
    rfl
  | succ k ih =>
    have hk : e / 2 < 2 ^ k := by rw [Nat.pow_succ] at h; omega
    have e1 : b ^ e = (b * b) ^ (e / 2) * b ^ (e % 2) := by rw [← Nat.pow_two, ← Nat.pow_mul, ← Nat.pow_add, Nat.div_add_mod]
    rw [pmB, ih _ _ hk, ← Nat.pow_mod, e1]
    split
    · rename_i h1
      rw [h1, Nat.pow_one, Nat.mod_mul_mod]
    · rename_i h1
      rw [show e % 2 = 0 by omega, Nat.pow_zero, Nat.mul_one]
end Go.Proofs.Ytihnagafldpbnaa.V
set_option linter.unusedVariables false
set_option linter.unusedSimpArgs false
namespace Go.Proofs.Ytihnagafldpbnaa.V
set_option maxHeartbeats 8000000
set_option maxRecDepth 100000
def tryN (n : Nat) : Nat → Bool
  | 0 => true
  | 1 => true
  | 2 => true
  | k + 3 => (n % (k + 2) != 0) && tryN n (k + 2)
theorem tryN_ok {n : Nat} (s : Nat) (h : tryN n s = true) (m : Nat) (h2 : 2 ≤ m) (hm : m < s) : ¬ m ∣ n := by
  induction s using Nat.strongRecOn with
  | _ s ih =>
    match s, h, hm with
    | 0, h, hm => omega
    | 1, h, hm => omega
    | 2, h, hm => omega
    | k + 3, h, hm =>
      rw [tryN, Bool.and_eq_true] at h
      rcases (by omega : m = k + 2 ∨ m < k + 2) with rfl | k1
      · intro hd
        have := Nat.mod_eq_zero_of_dvd hd
        simp [this] at h
      · exact ih (k + 2) (by omega) h.2 k1
theorem pock2 {N f a : Nat} (hf : Pri f) (hN : 2 ≤ N) (hs : N < 115792089237316195423570985008687907853269984665640564039457584007913129639936) (hd : (N - 1) % f = 0) (h1 : pmB N 256 a (N - 1) = 1) (h2 : Nat.gcd (pmB N 256 a ((N - 1) / f) + (N - 1)) N = 1) {r : Nat} (hr : Pri r) (hrN : r ∣ N) : f ∣ r - 1 := by
  have hs : N < 2 ^ 256 := hs
  have k := Nat.div_le_self (N - 1) f
  rw [pmB_eq N 256 a _ (by omega)] at h1 h2
  exact pock hf hN (Nat.dvd_of_mod_eq_zero hd) (by rw [h1, Nat.mod_eq_of_lt hN]) h2 hr hrN
theorem Pri.of_try {n s : Nat} (h2 : 2 ≤ n) (hs : n < s * s) (h : tryN n s = true) : Pri n := by
  refine ⟨h2, fun m hm => ?_⟩
  obtain ⟨k, hk⟩ := hm
  apply Classical.byContradiction
  intro hne
  have m1 : m ≠ 1 := fun e => hne (Or.inl e)
  have m2 : m ≠ n := fun e => hne (Or.inr e)
  have m0 : m ≠ 0 := fun e => by subst e; simp at hk; omega
  have k0 : k ≠ 0 := fun e => by subst e; simp at hk; omega
  have k1 : k ≠ 1 := fun e => by subst e; simp at hk; omega
  have a1 : ¬ m < s := fun l => tryN_ok s h m (by omega) l ⟨k, hk⟩
  have a2 : ¬ k < s := fun l => tryN_ok s h k (by omega) l ⟨m, by rw [hk, Nat.mul_comm]⟩
  have := Nat.mul_le_mul (show s ≤ m by omega) (show s ≤ k by omega)
  omega
theorem pri_991 : Pri 991 := Pri.of_try (s := 32) (by decide) (by decide) (by decide +kernel)
theorem pri_103 : Pri 103 := Pri.of_try (s := 11) (by decide) (by decide) (by decide +kernel)
theorem pri_8574133 : Pri 8574133 := Pri.of_big (F := 102073) (by decide) (by decide +kernel) fun r hr hd => (Nat.Coprime.mul_dvd_of_dvd_of_dvd (show Nat.gcd 991 103 = 1 by decide +kernel) (pock2 (N := 8574133) (a := 2) pri_991 (by decide) (by decide +kernel) (by decide +kernel) (by decide +kernel) (by decide +kernel) hr hd) (pock2 (N := 8574133) (a := 2) pri_103 (by decide) (by decide +kernel) (by decide +kernel) (by decide +kernel) (by decide +kernel) hr hd))
theorem pri_127 : Pri 127 := Pri.of_try (s := 12) (by decide) (by decide) (by decide +kernel)
theorem pri_569386763_ : Pri 1919519569386763 := Pri.of_big (F := 1088914891) (by decide) (by decide +kernel) fun r hr hd => (Nat.Coprime.mul_dvd_of_dvd_of_dvd (show Nat.gcd 8574133 127 = 1 by decide +kernel) (pock2 (N := 1919519569386763) (a := 2) pri_8574133 (by decide) (by decide +kernel) (by decide +kernel) (by decide +kernel) (by decide +kernel) hr hd) (pock2 (N := 1919519569386763) (a := 2) pri_127 (by decide) (by decide +kernel) (by decide +kernel) (by decide +kernel) (by decide +kernel) hr hd))
theorem pri_569003 : Pri 569003 := Pri.of_try (s := 755) (by decide) (by decide) (by decide +kernel)
theorem pri_2773320623 : Pri 2773320623 := Pri.of_big (F := 569003) (by decide) (by decide +kernel) fun r hr hd => (pock2 (N := 2773320623) (a := 2) pri_569003 (by decide) (by decide +kernel) (by decide +kernel) (by decide +kernel) (by decide +kernel) hr hd)
theorem pri_72106336199 : Pri 72106336199 := Pri.of_big (F := 2773320623) (by decide) (by decide +kernel) fun r hr hd => (pock2 (N := 72106336199) (a := 2) pri_2773320623 (by decide) (by decide +kernel) (by decide +kernel) (by decide +kernel) (by decide +kernel) hr hd)
theorem pri_543864801_ : Pri 75445702479781427272750846543864801 := Pri.of_big (F := 138409523410761641138333837) (by decide) (by decide +kernel) fun r hr hd => (Nat.Coprime.mul_dvd_of_dvd_of_dvd (show Nat.gcd 1919519569386763 72106336199 = 1 by decide +kernel) (pock2 (N := 75445702479781427272750846543864801) (a := 2) pri_569386763_ (by decide) (by decide +kernel) (by decide +kernel) (by decide +kernel) (by decide +kernel) hr hd) (pock2 (N := 75445702479781427272750846543864801) (a := 2) pri_72106336199 (by decide) (by decide +kernel) (by decide +kernel) (by decide +kernel) (by decide +kernel) hr hd))
theorem pri_430751 : Pri 430751 := Pri.of_try (s := 657) (by decide) (by decide) (by decide +kernel)
theorem pri_4153 : Pri 4153 := Pri.of_try (s := 65) (by decide) (by decide) (by decide +kernel)
theorem pri_568855353_ : Pri 31757755568855353 := Pri.of_big (F := 1788908903) (by decide) (by decide +kernel) fun r hr hd => (Nat.Coprime.mul_dvd_of_dvd_of_dvd (show Nat.gcd 430751 4153 = 1 by decide +kernel) (pock2 (N := 31757755568855353) (a := 2) pri_430751 (by decide) (by decide +kernel) (by decide +kernel) (by decide +kernel) (by decide +kernel) hr hd) (pock2 (N := 31757755568855353) (a := 2) pri_4153 (by decide) (by decide +kernel) (by decide +kernel) (by decide +kernel) (by decide +kernel) hr hd))
theorem pri_754340907_ : Pri 74058212732561358302231226437062788676166966415465897661863160754340907 := Pri.of_big (F := 2395986178073482737347378734667165195040796357129753) (by decide) (by decide +kernel) fun r hr hd => (Nat.Coprime.mul_dvd_of_dvd_of_dvd (show Nat.gcd 75445702479781427272750846543864801 31757755568855353 = 1 by decide +kernel) (pock2 (N := 74058212732561358302231226437062788676166966415465897661863160754340907) (a := 2) pri_543864801_ (by decide) (by decide +kernel) (by decide +kernel) (by decide +kernel) (by decide +kernel) hr hd) (pock2 (N := 74058212732561358302231226437062788676166966415465897661863160754340907) (a := 2) pri_568855353_ (by decide) (by decide +kernel) (by decide +kernel) (by decide +kernel) (by decide +kernel) hr hd))
theorem pri_564819949_ : Pri 57896044618658097711785492504343953926634992332820282019728792003956564819949 := Pri.of_big (F := 74058212732561358302231226437062788676166966415465897661863160754340907) (by decide) (by decide +kernel) fun r hr hd => (pock2 (N := 57896044618658097711785492504343953926634992332820282019728792003956564819949) (a := 2) pri_754340907_ (by decide) (by decide +kernel) (by decide +kernel) (by decide +kernel) (by decide +kernel) hr hd)
theorem pri_P : Pri 57896044618658097711785492504343953926634992332820282019728792003956564819949 := pri_564819949_
end Go.Proofs.Ytihnagafldpbnaa.V
