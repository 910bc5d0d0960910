/- Curve: one step of the ladder by values modulo p; the point's bytes (pure; printed by wip/genlad.py). -/
import Derived.Test.YtihnagafldpbnaaVUs
set_option linter.unusedVariables false
set_option linter.unusedSimpArgs false
namespace Go.Proofs.Ytihnagafldpbnaa.V
open Go.RowKit
set_option maxHeartbeats 8000000
set_option maxRecDepth 100000
theorem LimE.eta {m : Int} {a : ElT} (h : LimE m a) : LimE m (a.1, a.2.1, a.2.2.1, a.2.2.2.1, a.2.2.2.2.1, ()) := h
theorem LimE.of3 {m : Int} {a : ElT} {p q : Prop} (h : (LimE m a ∧ p) ∧ q) : LimE m a := h.1.1
theorem lim_1 : LimE 2251799813947392 (1, 0, 0, 0, 0, ()) := ⟨by decide, by decide, by decide, by decide, by decide⟩
theorem lim_0 : LimE 2251799813947392 (0, 0, 0, 0, 0, ()) := ⟨by decide, by decide, by decide, by decide, by decide⟩
theorem lim_c : LimE 2251799813947392 (121665, 0, 0, 0, 0, ()) := ⟨by decide, by decide, by decide, by decide, by decide⟩
theorem Cg.to {x y : Int} (h : Cg x y) : x % 57896044618658097711785492504343953926634992332820282019728792003956564819949 = y % 57896044618658097711785492504343953926634992332820282019728792003956564819949 := h.emod
theorem lad_mid {V a b c d v1 v2 v3 v4 v5 v6 v7 v8 v9 v10 v11 v12 v13 v14 v15 v16 v17 v18 : Int} (g1 : Cg v1 (a + b)) (g2 : Cg v2 (a - b)) (g3 : Cg v3 (c + d)) (g4 : Cg v4 (c - d)) (g5 : Cg v5 (v4 * v1)) (g6 : Cg v6 (v3 * v2)) (g7 : Cg v7 (v1 * v1)) (g8 : Cg v8 (v2 * v2)) (g9 : Cg v9 (v7 - v8)) (g10 : Cg v10 (v5 + v6)) (g11 : Cg v11 (v5 - v6)) (g12 : Cg v12 (v7 * v8)) (g13 : Cg v13 (v9 * 121665)) (g14 : Cg v14 (v7 + v13)) (g15 : Cg v15 (v9 * v14)) (g16 : Cg v16 (v10 * v10)) (g17 : Cg v17 (v11 * v11)) (g18 : Cg v18 (V * v17)) :
    v12 % 57896044618658097711785492504343953926634992332820282019728792003956564819949 = ((a + b) * (a + b)) * ((a - b) * (a - b)) % 57896044618658097711785492504343953926634992332820282019728792003956564819949 ∧ v15 % 57896044618658097711785492504343953926634992332820282019728792003956564819949 = ((a + b) * (a + b) - (a - b) * (a - b)) * ((a + b) * (a + b) + ((a + b) * (a + b) - (a - b) * (a - b)) * 121665) % 57896044618658097711785492504343953926634992332820282019728792003956564819949 ∧
    v16 % 57896044618658097711785492504343953926634992332820282019728792003956564819949 = ((c - d) * (a + b) + (c + d) * (a - b)) * ((c - d) * (a + b) + (c + d) * (a - b)) % 57896044618658097711785492504343953926634992332820282019728792003956564819949 ∧ v18 % 57896044618658097711785492504343953926634992332820282019728792003956564819949 = V * (((c - d) * (a + b) - (c + d) * (a - b)) * ((c - d) * (a + b) - (c + d) * (a - b))) % 57896044618658097711785492504343953926634992332820282019728792003956564819949 := by
 have k5 := g5.trans (g4.mul g1)
 have k6 := g6.trans (g3.mul g2)
 have k7 := g7.trans (g1.mul g1)
 have k8 := g8.trans (g2.mul g2)
 have k9 := g9.trans (k7.sub k8)
 have k10 := g10.trans (k5.add k6)
 have k11 := g11.trans (k5.sub k6)
 have k13 := g13.trans (k9.mul (Cg.refl 121665))
 have k14 := g14.trans (k7.add k13)
 exact ⟨(g12.trans (k7.mul k8)).emod, (g15.trans (k9.mul k14)).emod, (g16.trans (k10.mul k10)).emod, (g18.trans ((Cg.refl V).mul (g17.trans (k11.mul k11)))).emod⟩
theorem lad_step {V T a b c d a' b' c' d' v1 v2 v3 v4 v5 v6 v7 v8 v9 v10 v11 v12 v13 v14 v15 v16 v17 v18 A B C D : Int} (hT : T = 0 ∨ T = 1) (ha : a' = if T = 1 then c else a) (hc : c' = if T = 1 then a else c) (hb : b' = if T = 1 then d else b) (hd : d' = if T = 1 then b else d) (g1 : Cg v1 (a' + b')) (g2 : Cg v2 (a' - b')) (g3 : Cg v3 (c' + d')) (g4 : Cg v4 (c' - d')) (g5 : Cg v5 (v4 * v1)) (g6 : Cg v6 (v3 * v2)) (g7 : Cg v7 (v1 * v1)) (g8 : Cg v8 (v2 * v2)) (g9 : Cg v9 (v7 - v8)) (g10 : Cg v10 (v5 + v6)) (g11 : Cg v11 (v5 - v6)) (g12 : Cg v12 (v7 * v8)) (g13 : Cg v13 (v9 * 121665)) (g14 : Cg v14 (v7 + v13)) (g15 : Cg v15 (v9 * v14)) (g16 : Cg v16 (v10 * v10)) (g17 : Cg v17 (v11 * v11)) (g18 : Cg v18 (V * v17))
    (hA : A = if T = 1 then v16 else v12) (hC : C = if T = 1 then v12 else v16) (hB : B = if T = 1 then v18 else v15) (hD : D = if T = 1 then v15 else v18) :
    (A % 57896044618658097711785492504343953926634992332820282019728792003956564819949, B % 57896044618658097711785492504343953926634992332820282019728792003956564819949, C % 57896044618658097711785492504343953926634992332820282019728792003956564819949, D % 57896044618658097711785492504343953926634992332820282019728792003956564819949) = ladS V T (a % 57896044618658097711785492504343953926634992332820282019728792003956564819949, b % 57896044618658097711785492504343953926634992332820282019728792003956564819949, c % 57896044618658097711785492504343953926634992332820282019728792003956564819949, d % 57896044618658097711785492504343953926634992332820282019728792003956564819949) := by
 have m : ∀ x : Int, Cg x (x % 57896044618658097711785492504343953926634992332820282019728792003956564819949) := fun x => (Cg.mod x).symm
 rcases hT with rfl | rfl
 ·simp only [show ¬ ((0 : Int) = 1) by decide, if_false] at *
  subst ha hb hc hd hA hB hC hD
  obtain ⟨e1, e2, e3, e4⟩ := lad_mid (g1.trans ((m _).add (m _))) (g2.trans ((m _).sub (m _))) (g3.trans ((m _).add (m _))) (g4.trans ((m _).sub (m _))) g5 g6 g7 g8 g9 g10 g11 g12 g13 g14 g15 g16 g17 g18
  unfold ladS
  simp only [show ¬ ((0 : Int) = 1) by decide, if_false]
  rw [e1, e2, e3, e4]
 ·simp only [if_true] at *
  subst ha hb hc hd hA hB hC hD
  obtain ⟨e1, e2, e3, e4⟩ := lad_mid (g1.trans ((m _).add (m _))) (g2.trans ((m _).sub (m _))) (g3.trans ((m _).add (m _))) (g4.trans ((m _).sub (m _))) g5 g6 g7 g8 g9 g10 g11 g12 g13 g14 g15 g16 g17 g18
  unfold ladS
  simp only [if_true]
  rw [e1, e2, e3, e4]
theorem toB_byte (b : UInt8) : toB (b.toNat : Int) = b := by
 unfold toB
 simp
theorem leV_mod (l : List UInt8) (b : UInt8) (h : l.length = 31) : leV (l ++ [b &&& 127]) % 57896044618658097711785492504343953926634992332820282019728792003956564819968 = leV (l ++ [b]) % 57896044618658097711785492504343953926634992332820282019728792003956564819968 := by
 have hb : (b &&& 127).toNat = b.toNat % 128 := by
  rw [UInt8.toNat_and]
  exact Nat.and_two_pow_sub_one_eq_mod _ 7
 have key : ∀ (l : List UInt8) (x : UInt8), leV (l ++ [x]) = leV l + 256 ^ l.length * (x.toNat : Int) := by
  intro l x
  induction l with
  | nil => simp [leV]
  | cons y l ih =>
    simp only [List.cons_append, leV, ih, List.length_cons, Int.pow_succ, Int.mul_add]
    rw [Int.mul_comm (256 ^ l.length) 256, Int.mul_assoc]
    omega
 rw [key, key, h, hb, show (256 : Int) ^ 31 = 452312848583266388373324160190187140051835877600158453279131187530910662656 from by decide]
 generalize leV l = v
 omega
theorem pt_ok (pt : List UInt8) (h : pt.length = 32) : leV [toB ((pt.getD 0 0).toNat : Int), toB ((pt.getD 1 0).toNat : Int), toB ((pt.getD 2 0).toNat : Int), toB ((pt.getD 3 0).toNat : Int), toB ((pt.getD 4 0).toNat : Int), toB ((pt.getD 5 0).toNat : Int), toB ((pt.getD 6 0).toNat : Int), toB ((pt.getD 7 0).toNat : Int), toB ((pt.getD 8 0).toNat : Int), toB ((pt.getD 9 0).toNat : Int), toB ((pt.getD 10 0).toNat : Int), toB ((pt.getD 11 0).toNat : Int), toB ((pt.getD 12 0).toNat : Int), toB ((pt.getD 13 0).toNat : Int), toB ((pt.getD 14 0).toNat : Int), toB ((pt.getD 15 0).toNat : Int), toB ((pt.getD 16 0).toNat : Int), toB ((pt.getD 17 0).toNat : Int), toB ((pt.getD 18 0).toNat : Int), toB ((pt.getD 19 0).toNat : Int), toB ((pt.getD 20 0).toNat : Int), toB ((pt.getD 21 0).toNat : Int), toB ((pt.getD 22 0).toNat : Int), toB ((pt.getD 23 0).toNat : Int), toB ((pt.getD 24 0).toNat : Int), toB ((pt.getD 25 0).toNat : Int), toB ((pt.getD 26 0).toNat : Int), toB ((pt.getD 27 0).toNat : Int), toB ((pt.getD 28 0).toNat : Int), toB ((pt.getD 29 0).toNat : Int), toB ((pt.getD 30 0).toNat : Int), toB (bits .and .u8 ((pt.getD 31 0).toNat : Int) 127)] % 57896044618658097711785492504343953926634992332820282019728792003956564819968 = leV pt % 57896044618658097711785492504343953926634992332820282019728792003956564819968 := by
 match pt, h with
 | [s0, s1, s2, s3, s4, s5, s6, s7, s8, s9, s10, s11, s12, s13, s14, s15, s16, s17, s18, s19, s20, s21, s22, s23, s24, s25, s26, s27, s28, s29, s30, s31], _ =>
   simp only [List.getD_cons_zero, List.getD_cons_succ, toB_byte, and127]
   exact leV_mod [s0, s1, s2, s3, s4, s5, s6, s7, s8, s9, s10, s11, s12, s13, s14, s15, s16, s17, s18, s19, s20, s21, s22, s23, s24, s25, s26, s27, s28, s29, s30] s31 rfl
theorem mul_ok {sc pt : List UInt8} {X a b c d i m : Int} (hs : sc.length = 32) (hp : pt.length = 32) (hX : X = leV pt % 57896044618658097711785492504343953926634992332820282019728792003956564819968) (hl : ladR (kbit (clampL sc)) X 0 (a % 57896044618658097711785492504343953926634992332820282019728792003956564819949, b % 57896044618658097711785492504343953926634992332820282019728792003956564819949, c, d) = ladR (kbit (clampL sc)) X 255 (1, 0, X % 57896044618658097711785492504343953926634992332820282019728792003956564819949, 1)) (hi : i % 57896044618658097711785492504343953926634992332820282019728792003956564819949 = powA (b % 57896044618658097711785492504343953926634992332820282019728792003956564819949)) (hm : Cg m (a * i)) :
    (leB 32 (m % 57896044618658097711785492504343953926634992332820282019728792003956564819949), 0) = mulF sc pt := by
 unfold mulF
 rw [if_pos ⟨hs, hp⟩, ← hX]
 unfold mulP
 rw [← hl]
 simp only [ladR, fin4]
 rw [Cg.prd hm rfl hi]
theorem lad_go {k : Nat → Int} {V z zq : Int} {s s' v : Int × Int × Int × Int} (h : ladR k V (z + 1).toNat s = v) (h0 : 0 ≤ z) (hz : z ≤ 254) (e : zq = z - 1) (hs : s' = ladS V (k z.toNat) s) : -1 ≤ zq ∧ zq ≤ 254 ∧ ladR k V (zq + 1).toNat s' = v ∧ (zq + 1).toNat < (z + 1).toNat := by
 refine ⟨by omega, by omega, ?_, by omega⟩
 rw [← h, show (z + 1).toNat = z.toNat + 1 by omega, ladR, show (zq + 1).toNat = z.toNat by omega, hs]
end Go.Proofs.Ytihnagafldpbnaa.V
