/- Curve: bits that do not matter, points of small order (pure). -/
import Derived.Test.YtihnagafldpbnaaVUs
set_option linter.unusedVariables false
set_option linter.unusedSimpArgs false
namespace Go.Proofs.Ytihnagafldpbnaa.V
open Go.RowKit
set_option maxHeartbeats 8000000
set_option maxRecDepth 100000
/-! Points of small order. -/
theorem Cg.re {x y u v : Int} (h : Cg x y) (hx : u = x) (hy : v = y) : Cg u v := by rw [hx, hy]; exact h
theorem Cg.z_mul {x : Int} (h : Cg x 0) (w : Int) : Cg (x * w) 0 := (h.mul (Cg.refl w)).re rfl (by omega)
theorem Cg.of_sub {x y : Int} (h : Cg (x - y) 0) : Cg x y := (h.add (Cg.refl y)).re (by omega) (by omega)
theorem Cg.to_sub {x y : Int} (h : Cg x y) : Cg (x - y) 0 := (h.sub (Cg.refl y)).re rfl (by omega)
theorem pow_fac (a : Int) (n : Nat) (r : Int) : ∃ u, powR a (n + 1) r = u * a % 57896044618658097711785492504343953926634992332820282019728792003956564819949 := by
  induction n generalizing r with
  | zero => exact ⟨r * r % 57896044618658097711785492504343953926634992332820282019728792003956564819949, by simp [powR, powS]⟩
  | succ n ih => rw [powR]; exact ih _
theorem fin_0 {s : Int × Int × Int × Int} (h : Cg (s.1 * s.2.1) 0) : fin4 s = 0 := by
  unfold fin4 powA
  obtain ⟨u, hu⟩ := pow_fac s.2.1 254 1
  rw [hu]
  have k : Cg (s.1 * (u * s.2.1 % 57896044618658097711785492504343953926634992332820282019728792003956564819949)) 0 := ((Cg.refl s.1).mul (Cg.mod (u * s.2.1))).trans ((h.z_mul u).re (by grind) rfl)
  exact k.emod
theorem dbl_O {a b : Int} (h : Cg (a * b) 0 ∨ Cg (a * a) (b * b)) :
    Cg (((a + b) * (a + b) * ((a - b) * (a - b)) % 57896044618658097711785492504343953926634992332820282019728792003956564819949) * (((a + b) * (a + b) - (a - b) * (a - b)) * ((a + b) * (a + b) + ((a + b) * (a + b) - (a - b) * (a - b)) * 121665) % 57896044618658097711785492504343953926634992332820282019728792003956564819949)) 0 := by
  refine ((Cg.mod _).mul (Cg.mod _)).trans ?_
  have k : Cg ((a * b) * (a * a - b * b)) 0 := by
    rcases h with h | h
    · exact h.z_mul _
    · exact (h.to_sub.z_mul (a * b)).re (by grind) rfl
  exact (k.z_mul (4 * (a * a - b * b) * ((a + b) * (a + b) + ((a + b) * (a + b) - (a - b) * (a - b)) * 121665))).re (by grind) rfl
theorem dif_S {a b c d X : Int} (hX : Cg (X * X) 1) (h : Cg (a * a) (b * b) ∨ Cg (c * c) (d * d)) :
    Cg ((((c - d) * (a + b) + (c + d) * (a - b)) * ((c - d) * (a + b) + (c + d) * (a - b)) % 57896044618658097711785492504343953926634992332820282019728792003956564819949) * (((c - d) * (a + b) + (c + d) * (a - b)) * ((c - d) * (a + b) + (c + d) * (a - b)) % 57896044618658097711785492504343953926634992332820282019728792003956564819949))
      ((X * (((c - d) * (a + b) - (c + d) * (a - b)) * ((c - d) * (a + b) - (c + d) * (a - b))) % 57896044618658097711785492504343953926634992332820282019728792003956564819949) * (X * (((c - d) * (a + b) - (c + d) * (a - b)) * ((c - d) * (a + b) - (c + d) * (a - b))) % 57896044618658097711785492504343953926634992332820282019728792003956564819949)) := by
  refine ((Cg.mod _).mul (Cg.mod _)).trans (Cg.trans ?_ ((Cg.mod _).mul (Cg.mod _)).symm)
  have k : Cg ((a * a - b * b) * (c * c - d * d)) 0 := by
    rcases h with h | h
    · exact h.to_sub.z_mul _
    · exact (h.to_sub.z_mul (a * a - b * b)).re (by grind) rfl
  have k1 : Cg (((c - d) * (a + b) + (c + d) * (a - b)) * ((c - d) * (a + b) + (c + d) * (a - b))) (((c - d) * (a + b) - (c + d) * (a - b)) * ((c - d) * (a + b) - (c + d) * (a - b))) :=
    Cg.of_sub ((k.z_mul 4).re (by grind) rfl)
  refine (k1.mul k1).trans ?_
  refine Cg.re (hX.symm.mul (Cg.refl ((((c - d) * (a + b) - (c + d) * (a - b)) * ((c - d) * (a + b) - (c + d) * (a - b))) * (((c - d) * (a + b) - (c + d) * (a - b)) * ((c - d) * (a + b) - (c + d) * (a - b)))))) ?_ ?_
  · rw [Int.one_mul]
  · grind
def OO (p q : Int) : Prop := Cg (p * q) 0
def SS (p q : Int) : Prop := Cg (p * p) (q * q)
def I0 (s : Int × Int × Int × Int) : Prop := OO s.1 s.2.1 ∧ OO s.2.2.1 s.2.2.2
def I1 (s : Int × Int × Int × Int) : Prop := (OO s.1 s.2.1 ∧ SS s.2.2.1 s.2.2.2) ∨ (SS s.1 s.2.1 ∧ OO s.2.2.1 s.2.2.2)
theorem lad_I0 {X t : Int} {s : Int × Int × Int × Int} (hX : Cg X 0) (h : I0 s) : I0 (ladS X t s) := by
  obtain ⟨a, b, c, d⟩ := s
  obtain ⟨h1, h2⟩ := h
  have z : ∀ w v : Int, Cg ((w % 57896044618658097711785492504343953926634992332820282019728792003956564819949) * (X * v % 57896044618658097711785492504343953926634992332820282019728792003956564819949)) 0 := fun w v => ((Cg.mod _).mul (Cg.mod _)).trans ((hX.z_mul (w * v)).re (by grind) rfl)
  by_cases ht : t = 1
  · unfold ladS
    simp only [if_pos ht]
    exact ⟨z _ _, dbl_O (Or.inl h2)⟩
  · unfold ladS
    simp only [if_neg ht]
    exact ⟨dbl_O (Or.inl h1), z _ _⟩
theorem lad_I1 {X t : Int} {s : Int × Int × Int × Int} (hX : Cg (X * X) 1) (h : I1 s) : I1 (ladS X t s) := by
  obtain ⟨a, b, c, d⟩ := s
  by_cases ht : t = 1
  · unfold ladS
    simp only [if_pos ht]
    rcases h with ⟨h1, h2⟩ | ⟨h1, h2⟩
    · exact Or.inr ⟨dif_S hX (Or.inl h2), dbl_O (Or.inr h2)⟩
    · exact Or.inr ⟨dif_S hX (Or.inr h1), dbl_O (Or.inl h2)⟩
  · unfold ladS
    simp only [if_neg ht]
    rcases h with ⟨h1, h2⟩ | ⟨h1, h2⟩
    · exact Or.inl ⟨dbl_O (Or.inl h1), dif_S hX (Or.inr h2)⟩
    · exact Or.inl ⟨dbl_O (Or.inr h1), dif_S hX (Or.inl h1)⟩
theorem lad_O1 {X : Int} {s : Int × Int × Int × Int} (h : I1 s) : OO (ladS X 0 s).1 (ladS X 0 s).2.1 := by
  obtain ⟨a, b, c, d⟩ := s
  unfold ladS
  simp only [if_neg (show ¬ (0 : Int) = 1 by decide)]
  rcases h with ⟨h1, h2⟩ | ⟨h1, h2⟩
  · exact dbl_O (Or.inl h1)
  · exact dbl_O (Or.inr h1)
theorem ladR_inv {I : Int × Int × Int × Int → Prop} {k : Nat → Int} {X : Int} (hs : ∀ t s, I s → I (ladS X t s)) (n : Nat) (s : Int × Int × Int × Int) (h : I s) : I (ladR k X n s) := by
  induction n generalizing s with
  | zero => exact h
  | succ n ih => exact ih _ (hs _ _ h)
theorem ladR_O {k : Nat → Int} {X : Int} (hX : Cg (X * X) 1) (hk : k 0 = 0) (n : Nat) (s : Int × Int × Int × Int) (h : I1 s) : OO (ladR k X (n + 1) s).1 (ladR k X (n + 1) s).2.1 := by
  induction n generalizing s with
  | zero => simp only [ladR, hk]; exact lad_O1 h
  | succ n ih => exact ih _ (lad_I1 hX h)
theorem mulP_0 {l : List UInt8} {X : Int} (hX : Cg X 0) : mulP l X = 0 := by
  unfold mulP
  refine fin_0 (ladR_inv (I := I0) (fun t s h => lad_I0 hX h) 255 _ ?_).1
  refine ⟨⟨0, rfl⟩, ?_⟩
  exact ((Cg.mod X).trans hX).z_mul 1
theorem mulP_1 {l : List UInt8} {X : Int} (hX : Cg (X * X) 1) (hk : kbit l 0 = 0) : mulP l X = 0 := by
  unfold mulP
  refine fin_0 (ladR_O hX hk 254 _ (Or.inl ⟨⟨0, rfl⟩, ?_⟩))
  exact (((Cg.mod X).mul (Cg.mod X)).trans hX).trans ⟨0, rfl⟩
/-! Bits that do not matter. -/
theorem and248_even (b : UInt8) : (b &&& 248).toNat % 2 = 0 := ub_of (p := fun b => (b &&& 248).toNat % 2 = 0) (by decide +kernel) b
theorem clamp_0 (s : List UInt8) (h : s.length = 32) : kbit (clampL s) 0 = 0 := by
  match s, h with
  | s0 :: l, h =>
    have h1 : l.length = 31 := by simpa using h
    unfold kbit clampL
    have e : ((((s0 :: l).set 0 ((s0 :: l).getD 0 0 &&& 248)).set 31 (((s0 :: l).getD 31 0 &&& 127) ||| 64)).getD (0 / 8) 0) = s0 &&& 248 := by
      simp [List.getD_cons_zero, List.set_cons_zero, List.set_cons_succ]
    rw [e]
    have := and248_even s0
    rw [show (0 % 8 : Nat) = 0 from rfl, Nat.pow_zero, Nat.div_one, this]
    rfl
theorem low_ok (x low : UInt8) : (x ^^^ (low &&& 7)) &&& 248 = x &&& 248 := by
  have e : (low &&& 7) &&& 248 = 0 := by rw [UInt8.and_assoc]; exact UInt8.and_zero
  have d : (x ^^^ (low &&& 7)) &&& 248 = (x &&& 248) ^^^ ((low &&& 7) &&& 248) := by
    apply UInt8.toNat_inj.1
    simp only [UInt8.toNat_and, UInt8.toNat_xor]
    apply Nat.eq_of_testBit_eq
    intro i
    simp only [Nat.testBit_and, Nat.testBit_xor]
    cases x.toNat.testBit i <;> cases low.toNat.testBit i <;> cases (UInt8.toNat 7).testBit i <;> cases (UInt8.toNat 248).testBit i <;> rfl
  rw [d, e, UInt8.xor_zero]
theorem high_ok (x high : UInt8) : ((x ^^^ (high &&& 192)) &&& 127) ||| 64 = (x &&& 127) ||| 64 := by
  apply UInt8.toNat_inj.1
  simp only [UInt8.toNat_and, UInt8.toNat_xor, UInt8.toNat_or]
  apply Nat.eq_of_testBit_eq
  intro i
  simp only [Nat.testBit_and, Nat.testBit_xor, Nat.testBit_or]
  by_cases hi : i < 8
  · have : ∀ i : _root_.Fin 8, ∀ p q : Bool, (((Bool.xor p (q && Nat.testBit (UInt8.toNat 192) i.val)) && Nat.testBit (UInt8.toNat 127) i.val) || Nat.testBit (UInt8.toNat 64) i.val) = ((p && Nat.testBit (UInt8.toNat 127) i.val) || Nat.testBit (UInt8.toNat 64) i.val) := by decide
    exact this ⟨i, hi⟩ _ _
  · have h2 : Nat.testBit (UInt8.toNat 127) i = false := Nat.testBit_lt_two_pow (Nat.lt_of_lt_of_le (show UInt8.toNat 127 < 2 ^ 8 by decide) (Nat.pow_le_pow_right (by decide) (by omega)))
    rw [h2, Bool.and_false, Bool.and_false]
theorem clamp_ig (s : List UInt8) (h : s.length = 32) (low high : UInt8) : clampL ((s.set 0 (s.getD 0 0 ^^^ (low &&& 7))).set 31 (s.getD 31 0 ^^^ (high &&& 192))) = clampL s := by
  match s, h with
  | [s0, s1, s2, s3, s4, s5, s6, s7, s8, s9, s10, s11, s12, s13, s14, s15, s16, s17, s18, s19, s20, s21, s22, s23, s24, s25, s26, s27, s28, s29, s30, s31], _ =>
    simp only [clampL, List.getD_cons_zero, List.getD_cons_succ, List.set_cons_zero, List.set_cons_succ, low_ok, high_ok]
theorem xor128 (b : UInt8) : (b ^^^ 128).toNat % 128 = b.toNat % 128 := ub_of (p := fun b => (b ^^^ 128).toNat % 128 = b.toNat % 128) (by decide +kernel) b
theorem leV_app (l : List UInt8) (x : UInt8) : leV (l ++ [x]) = leV l + 256 ^ l.length * (x.toNat : Int) := by
  induction l with
  | nil => simp [leV]
  | cons y l ih =>
    simp only [List.cons_append, leV, ih, List.length_cons, Int.pow_succ, Int.mul_add]
    rw [Int.mul_comm (256 ^ l.length) 256, Int.mul_assoc]
    omega
theorem top_ig (q : List UInt8) (h : q.length = 32) : leV (q.set 31 (q.getD 31 0 ^^^ 128)) % 57896044618658097711785492504343953926634992332820282019728792003956564819968 = leV q % 57896044618658097711785492504343953926634992332820282019728792003956564819968 := by
  match q, h with
  | [s0, s1, s2, s3, s4, s5, s6, s7, s8, s9, s10, s11, s12, s13, s14, s15, s16, s17, s18, s19, s20, s21, s22, s23, s24, s25, s26, s27, s28, s29, s30, s31], _ =>
    simp only [List.getD_cons_zero, List.getD_cons_succ, List.set_cons_zero, List.set_cons_succ]
    have a := leV_app [s0, s1, s2, s3, s4, s5, s6, s7, s8, s9, s10, s11, s12, s13, s14, s15, s16, s17, s18, s19, s20, s21, s22, s23, s24, s25, s26, s27, s28, s29, s30] s31
    have b := leV_app [s0, s1, s2, s3, s4, s5, s6, s7, s8, s9, s10, s11, s12, s13, s14, s15, s16, s17, s18, s19, s20, s21, s22, s23, s24, s25, s26, s27, s28, s29, s30] (s31 ^^^ 128)
    simp only [List.cons_append, List.nil_append] at a b
    rw [a, b]
    have x := xor128 s31
    simp only [List.length_cons, List.length_nil]
    rw [show (256 : Int) ^ (0 + 1 + 1 + 1 + 1 + 1 + 1 + 1 + 1 + 1 + 1 + 1 + 1 + 1 + 1 + 1 + 1 + 1 + 1 + 1 + 1 + 1 + 1 + 1 + 1 + 1 + 1 + 1 + 1 + 1 + 1 + 1) = 452312848583266388373324160190187140051835877600158453279131187530910662656 from by decide]
    generalize leV [s0, s1, s2, s3, s4, s5, s6, s7, s8, s9, s10, s11, s12, s13, s14, s15, s16, s17, s18, s19, s20, s21, s22, s23, s24, s25, s26, s27, s28, s29, s30] = v
    omega
theorem mul_ig {s p : List UInt8} (hs : s.length = 32) (hp : p.length = 32) (low high : UInt8) : mulF ((s.set 0 (s.getD 0 0 ^^^ (low &&& 7))).set 31 (s.getD 31 0 ^^^ (high &&& 192))) (p.set 31 (p.getD 31 0 ^^^ 128)) = mulF s p ∧ mulF ((s.set 0 (s.getD 0 0 ^^^ (low &&& 7))).set 31 (s.getD 31 0 ^^^ (high &&& 192))) p = mulF s p := by
  have h1 : (((s.set 0 (s.getD 0 0 ^^^ (low &&& 7))).set 31 (s.getD 31 0 ^^^ (high &&& 192)))).length = 32 := by simp [hs]
  have h2 : (p.set 31 (p.getD 31 0 ^^^ 128)).length = 32 := by simp [hp]
  constructor <;> (unfold mulF; simp only [h1, h2, hs, hp, and_self, if_true, clamp_ig s hs, top_ig p hp])
theorem mul_ig1 {s p : List UInt8} (hs : s.length = 32) (hp : p.length = 32) (low high : UInt8) : mulF ((s.set 0 (s.getD 0 0 ^^^ (low &&& 7))).set 31 (s.getD 31 0 ^^^ (high &&& 192))) (p.set 31 (p.getD 31 0 ^^^ 128)) = mulF s p := (mul_ig hs hp low high).1
theorem mul_ig2 {s p : List UInt8} (hs : s.length = 32) (hp : p.length = 32) (low high : UInt8) : mulF ((s.set 0 (s.getD 0 0 ^^^ (low &&& 7))).set 31 (s.getD 31 0 ^^^ (high &&& 192))) p = mulF s p := (mul_ig hs hp low high).2
theorem mul_32 {s p : List UInt8} (hs : s.length = 32) (hp : p.length = 32) : ∃ l, mulF s p = (l, 0) ∧ l.length = 32 := by
  unfold mulF
  rw [if_pos ⟨hs, hp⟩]
  exact ⟨_, rfl, rfl⟩
theorem xor8 (a b : UInt8) : bits .xor .u8 (a.toNat : Int) (b.toNat : Int) = ((a ^^^ b).toNat : Int) := by
  have ha := a.toNat_lt
  have hb := b.toNat_lt
  have hx : a.toNat ^^^ b.toNat < 2 ^ 8 := Nat.xor_lt_two_pow ha hb
  have h1 : (BitVec.ofInt 8 (a.toNat : Int)).toNat = a.toNat := by
    rw [BitVec.ofInt_natCast, BitVec.toNat_ofNat]; exact Nat.mod_eq_of_lt (by omega)
  have h2 : (BitVec.ofInt 8 (b.toNat : Int)).toNat = b.toNat := by
    rw [BitVec.ofInt_natCast, BitVec.toNat_ofNat]; exact Nat.mod_eq_of_lt (by omega)
  show IntKind.u8.wrap ((BitVec.ofInt 8 (a.toNat : Int) ^^^ BitVec.ofInt 8 (b.toNat : Int)).toNat : Int) = _
  rw [BitVec.toNat_xor, h1, h2, IntKind.wrap_u8, UInt8.toNat_xor]
  omega
theorem and7 (b : UInt8) : bits .and .u8 (b.toNat : Int) 7 = ((b &&& 7).toNat : Int) := ub_of (p := fun b => bits .and .u8 (b.toNat : Int) 7 = ((b &&& 7).toNat : Int)) (by decide +kernel) b
theorem and192 (b : UInt8) : bits .and .u8 (b.toNat : Int) 192 = ((b &&& 192).toNat : Int) := ub_of (p := fun b => bits .and .u8 (b.toNat : Int) 192 = ((b &&& 192).toNat : Int)) (by decide +kernel) b
theorem toB_w (b : UInt8) : toB (b.toNat : Int) = b := by
  unfold toB
  simp
theorem toB_of {v : Int} (h : 0 ≤ v ∧ v ≤ 255) : v = ((toB v).toNat : Int) := by
  unfold toB
  have : v.toNat < 256 := by omega
  rw [show (UInt8.ofNat v.toNat).toNat = v.toNat % 256 from rfl, Nat.mod_eq_of_lt this]
  omega
theorem ig_s {s : List UInt8} (h : s.length = 32) {low high : Int} (hv : 0 ≤ low ∧ low ≤ 255) (hw : 0 ≤ high ∧ high ≤ 255) :
    (setAt (setAt s 0 0 fun _ => toB (bits BinOp.xor .u8 (↑(s.getD (Int.toNat 0) 0).toNat) (bits BinOp.and .u8 low 7))) 31 0 fun _ => toB (bits BinOp.xor .u8 (↑((setAt s 0 0 fun _ => toB (bits BinOp.xor .u8 (↑(s.getD (Int.toNat 0) 0).toNat) (bits BinOp.and .u8 low 7))).getD (Int.toNat 31) 0).toNat) (bits BinOp.and .u8 high 192))) =
      (s.set 0 (s.getD 0 0 ^^^ (toB low &&& 7))).set 31 (s.getD 31 0 ^^^ (toB high &&& 192)) := by
  have e1 : bits BinOp.and .u8 low 7 = ((toB low &&& 7).toNat : Int) := by rw [← and7, ← toB_of hv]
  have e2 : bits BinOp.and .u8 high 192 = ((toB high &&& 192).toNat : Int) := by rw [← and192, ← toB_of hw]
  rw [e1, e2]
  simp only [List.nil_append, setAt, xor8, toB_w]
  match s, h with
  | [s0, s1, s2, s3, s4, s5, s6, s7, s8, s9, s10, s11, s12, s13, s14, s15, s16, s17, s18, s19, s20, s21, s22, s23, s24, s25, s26, s27, s28, s29, s30, s31], _ => rfl
theorem ig_p (p : List UInt8) : (setAt p 31 0 fun _ => toB (bits BinOp.xor .u8 (↑(p.getD (Int.toNat 31) 0).toNat) 128)) = p.set 31 (p.getD 31 0 ^^^ 128) := by
  have e := xor8 (p.getD 31 0) 128
  rw [show ((UInt8.toNat 128 : Nat) : Int) = 128 from rfl] at e
  simp only [List.nil_append, setAt]
  rw [show (Int.toNat 31) = 31 from rfl, e, toB_w]
def mulB (s p : List UInt8) : List UInt8 := (mulF s p).1
theorem mul_e {s p : List UInt8} (hs : s.length = 32) (hp : p.length = 32) : mulF s p = (mulB s p, 0) := by
  obtain ⟨l, h, _⟩ := mul_32 hs hp
  unfold mulB
  rw [h]
theorem mul_sm0 {s p : List UInt8} (hs : s.length = 32) (hp : p.length = 32) (h : Cg (leV p % 57896044618658097711785492504343953926634992332820282019728792003956564819968) 0 ∨ Cg ((leV p % 57896044618658097711785492504343953926634992332820282019728792003956564819968) * (leV p % 57896044618658097711785492504343953926634992332820282019728792003956564819968)) 1) : mulF s p = (List.replicate 32 0, 0) := by
  unfold mulF
  rw [if_pos ⟨hs, hp⟩]
  rcases h with h | h
  · rw [mulP_0 h]; decide +kernel
  · rw [mulP_1 h (clamp_0 s hs)]; decide +kernel
end Go.Proofs.Ytihnagafldpbnaa.V
