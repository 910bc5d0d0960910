/- The law HeaderCuts. -/
import Derived.Test.YtfcpbeolhlkmnaaVHt
import Derived.Test.YtfcpbeolhlkmnaaVL
set_option linter.unusedVariables false
set_option linter.unusedSimpArgs false
namespace Go.Proofs.Ytfcpbeolhlkmnaa.V
open Go.RowKit
set_option maxHeartbeats 8000000
set_option maxRecDepth 100000
theorem u8_in' {v : Int} (h : IntKind.u8.has v) : 0 ≤ v ∧ v ≤ 255 := by
  have h : IntKind.u8.min ≤ v ∧ v ≤ IntKind.u8.max := h
  rw [show IntKind.u8.min = 0 by decide, show IntKind.u8.max = 255 by decide] at h
  exact h
theorem hc_k {cut : Int} (hr : 0 ≤ cut ∧ cut ≤ 255) : ((cut + 9223372036854775808) % 18446744073709551616 - 9223372036854775808) = cut ∧ ((cut + 9223372036854775808) % 18446744073709551616 - 9223372036854775808).tmod 30 = cut % 30 ∧ (28 + ((cut + 9223372036854775808) % 18446744073709551616 - 9223372036854775808).tmod 30 + 9223372036854775808) % 18446744073709551616 - 9223372036854775808 = 28 + cut % 30 := by
  have e0 : ((cut + 9223372036854775808) % 18446744073709551616 - 9223372036854775808) = cut := by omega
  have e : ((cut + 9223372036854775808) % 18446744073709551616 - 9223372036854775808).tmod 30 = cut % 30 := by rw [e0, Int.tmod_eq_emod_of_nonneg hr.1]
  rw [e]
  exact ⟨e0, rfl, by omega⟩
theorem hc1 {h : HdT} {cut : Int} {b : List UInt8} {e : Int} {P : Prop} (hg : HdG h) (hr : 0 ≤ cut ∧ cut ≤ 255) (hb : (b, e) = buildF h ((28 + ((cut + 9223372036854775808) % 18446744073709551616 - 9223372036854775808).tmod 30 + 9223372036854775808) % 18446744073709551616 - 9223372036854775808) ∧ P) : e = 0 ∧ b.length = 28 ∧ b = hdB h (28 + cut % 30) := by
  rw [(hc_k hr).2.2] at hb
  exact hd_build hg (by omega) (by omega) hb
theorem hc_l {cut : Int} {b : List UInt8} (hr : 0 ≤ cut ∧ cut ≤ 255) (hb : b.length = 28) : ((cut + 9223372036854775808) % 18446744073709551616 - 9223372036854775808).tmod ((b.length + (((cut + 9223372036854775808) % 18446744073709551616 - 9223372036854775808).tmod 30).toNat : Nat) : Int) = cut % (28 + cut % 30) := by
  rw [(hc_k hr).1, Int.tmod_eq_emod_of_nonneg (a := cut) hr.1, Int.tmod_eq_emod_of_nonneg (a := cut) hr.1, hb]
  congr 1
  omega
theorem hc2 {h : HdT} {cut : Int} {b : List UInt8} {e e1 : Int} {x : HdT} {P Q : Prop} (hg : HdG h) (hr : 0 ≤ cut ∧ cut ≤ 255) (hb : (b, e) = buildF h ((28 + ((cut + 9223372036854775808) % 18446744073709551616 - 9223372036854775808).tmod 30 + 9223372036854775808) % 18446744073709551616 - 9223372036854775808) ∧ P)
    (hp : (x, e1) = parseF (List.take ((((cut + 9223372036854775808) % 18446744073709551616 - 9223372036854775808).tmod ((b.length + (((cut + 9223372036854775808) % 18446744073709551616 - 9223372036854775808).tmod 30).toNat : Nat) : Int)).toNat - Int.toNat 0) (List.drop (Int.toNat 0) (b ++ List.replicate (((cut + 9223372036854775808) % 18446744073709551616 - 9223372036854775808).tmod 30).toNat 0))) ∧ Q) : (e1 = 1 ∧ ((cut + 9223372036854775808) % 18446744073709551616 - 9223372036854775808).tmod ((b.length + (((cut + 9223372036854775808) % 18446744073709551616 - 9223372036854775808).tmod 30).toNat : Nat) : Int) < 28) ∨ (e1 = 2 ∧ 28 ≤ ((cut + 9223372036854775808) % 18446744073709551616 - 9223372036854775808).tmod ((b.length + (((cut + 9223372036854775808) % 18446744073709551616 - 9223372036854775808).tmod 30).toNat : Nat) : Int)) := by
  obtain ⟨k1, k2, k3⟩ := hc1 hg hr hb
  rw [hc_l hr k2, (hc_k hr).2.1, Int.toNat_zero, List.drop_zero, Nat.sub_zero] at hp
  rw [hc_l hr k2]
  have hlt := Int.emod_lt_of_pos cut (show 0 < 28 + cut % 30 by omega)
  have hge := Int.emod_nonneg cut (show 28 + cut % 30 ≠ 0 by omega)
  generalize cut % (28 + cut % 30) = n at *
  by_cases hn : n < 28
  · left
    refine ⟨?_, hn⟩
    have hh := hp.1
    rw [parseF, if_pos (by rw [List.length_take]; omega)] at hh
    exact congrArg Prod.snd hh
  · right
    refine ⟨?_, by omega⟩
    have hh := hp.1
    rw [List.take_append, List.take_of_length_le (by omega), k3, List.take_replicate, hd_read hg (by omega) (by omega), if_neg (by rw [List.length_replicate]; rw [← k3, k2]; omega)] at hh
    exact congrArg Prod.snd hh
theorem hc3 {h : HdT} {cut : Int} {b more : List UInt8} {e e1 : Int} {x : HdT} {P Q : Prop} (hg : HdG h) (hr : 0 ≤ cut ∧ cut ≤ 255) (hb : (b, e) = buildF h ((28 + ((cut + 9223372036854775808) % 18446744073709551616 - 9223372036854775808).tmod 30 + 9223372036854775808) % 18446744073709551616 - 9223372036854775808) ∧ P)
    (hp : (x, e1) = parseF ([] ++ (b ++ List.replicate (((cut + 9223372036854775808) % 18446744073709551616 - 9223372036854775808).tmod 30).toNat 0) ++ more ++ [toB 0]) ∧ Q) : e1 = 2 := by
  obtain ⟨k1, k2, k3⟩ := hc1 hg hr hb
  have hh := hp.1
  rw [(hc_k hr).2.1, List.nil_append, List.append_assoc, List.append_assoc, k3, hd_read hg (by omega) (by omega), if_neg (by simp only [List.length_append, List.length_replicate, List.length_cons, List.length_nil]; omega)] at hh
  exact congrArg Prod.snd hh
theorem hc_m (cut : Int) : cut % (28 + cut % 30) < 28 + cut % 30 ∧ 0 ≤ cut % (28 + cut % 30) := ⟨Int.emod_lt_of_pos cut (by omega), Int.emod_nonneg cut (by omega)⟩
theorem hc4 {cut : Int} {b : List UInt8} (hr : 0 ≤ cut ∧ cut ≤ 255) (hb : (b.length : Int) = 28) : 0 ≤ (0 : Int) ∧ 0 ≤ ((cut + 9223372036854775808) % 18446744073709551616 - 9223372036854775808).tmod ((b.length + (((cut + 9223372036854775808) % 18446744073709551616 - 9223372036854775808).tmod 30).toNat : Nat) : Int) ∧ ((cut + 9223372036854775808) % 18446744073709551616 - 9223372036854775808).tmod ((b.length + (((cut + 9223372036854775808) % 18446744073709551616 - 9223372036854775808).tmod 30).toNat : Nat) : Int) ≤ ((b.length + (((cut + 9223372036854775808) % 18446744073709551616 - 9223372036854775808).tmod 30).toNat : Nat) : Int) ∧ True := by
  rw [hc_l hr (by omega), (hc_k hr).2.1]
  have := hc_m cut
  exact ⟨by omega, this.2, by omega, trivial⟩
def hcC_t : SpecT := nd0 24 (nd0 23 (lf0 13 (newSpec 69)) (lf0 23 (awhSp))) (nd0 27 (lf0 24 (hdrS)) (nd0 29 (lf0 27 (hpaSp)) (lf0 29 (hbuSp))))
def hcC : Cx := ⟨tt, qt, bt, st, hcC_t, 0, 1000000000000000, fun _ => none, false⟩
theorem hcC_si {E : Env} (h : E.ok) : SpecsOk Try.prog E hcC_t (fun _ => none) := ⟨(nd0_ok (nd0_ok (lf0_ok (new_sp h)) (lf0_ok (awh_sp h))) (nd0_ok (lf0_ok (dhd_sp h)) (nd0_ok (lf0_ok (hpa_sp h)) (lf0_ok (hbu_sp h))))), noI_ok _ _⟩
theorem hcC_cx (E : Env) (h : E.ok) (h1 : E.lo = 0) (h2 : E.hi = 1000000000000000) : Cx.ok hcC Try.prog E := ⟨tt_ok, qt_ok, bt_ok, hcC_si h, h, h1, h2, mixed_ok⟩
theorem hcC_from (lo hi : Nat) (E : Env) (h : E.ok) (h1 : E.lo = lo) (h2 : E.hi = hi) : Cx.ok (Cx.from hcC lo hi) Try.prog E := ⟨tt_ok, qt_ok, bt_ok, hcC_si h, h, h1, h2, mixed_ok⟩
abbrev hcAs : List Shp := [.sl .byte, .int .u8, .sl .byte]
theorem hc_vc (x : Shp.Ds hcAs) (hin : inrs hcAs x) : vcLaw hcC Try.f6 hcAs x := by
  obtain ⟨codes, cut, more, _⟩ := x
  have hr : 0 ≤ cut ∧ cut ≤ 255 := u8_in' hin.2.1
  have hm : more.length ≤ 140737488351232 := hin.2.2.1
  clear hin
  have k1 := (hc_k hr).2.1
  have k2 {b : List UInt8} (hb : (b.length : Int) = 28) := hc_l (b := b) hr (by omega)
  obtain ⟨k3, k4⟩ := hc_m cut
  cbv
  (repeat' (first | ((with_reducible refine And.intro (fun h => ?_) (fun h => ?_)) <;> (first | with_reducible exact (tf h (by assumption)).elim | with_reducible exact (tf (by assumption) h).elim | cbv)) | ((with_reducible show JoinT (fun s K => vc _ (Code.region _ _ true) s K) _ _ _ _ _); (with_reducible apply JoinT.mg2); (focus (cbv; (repeat' (first | ((with_reducible refine And.intro (fun h => ?_) (fun h => ?_)) <;> (first | with_reducible exact (tf h (by assumption)).elim | with_reducible exact (tf (by assumption) h).elim | cbv)) | ((with_reducible first | refine Cb.mk ?_ | refine Lz.mk ?_ | refine JoinT.left ?_ | refine AllT.mk (fun x hx => ?_)); cbv) | ((with_reducible refine Ob.mk (fun _ => ?_) ?_); rotate_left 1) | (with_reducible first | refine Mg.mk (Exists.intro ?_ (And.intro ?_ ?_)) | rfl | refine Fin.mk ?_ | exact True.intro | refine And.intro ?_ ?_))); (all_goals (try (have du : Unit := (); have dv : Unit := (); first | exact Goes.self (Ex2.mk ⟨dv, du, trivial, trivial, rfl⟩) | exact Goes.self (Ex2.mk ⟨x, du, hx, trivial, rfl⟩) | (rename_i xa hxa; exact Goes.self (Ex2.mk ⟨xa, x, hxa, hx, rfl⟩))))); (all_goals (fail_if_success (with_reducible first | show Goes _ _ _ _ | show (∃ _, unr _ _ _ _ _ _))))))) | ((with_reducible first | refine Cb.mk ?_ | refine Lz.mk ?_ | refine JoinT.left ?_ | refine AllT.mk (fun x hx => ?_)); cbv) | ((with_reducible refine Ob.mk (fun _ => ?_) ?_); rotate_left 1) | (with_reducible first | refine Mg.mk (Exists.intro ?_ (And.intro ?_ ?_)) | rfl | refine Fin.mk ?_ | exact True.intro | refine And.intro ?_ ?_)))
  all_goals first | (with_reducible show (∃ _, unr _ _ _ _ _ _); skip) | (with_reducible show Goes _ _ _ _; skip) | (with_reducible show JoinT _ _ _ _ _ _; skip) | (first | ((try dsimp only [Shp.D, Shp.Ds, Shp.dflt] at *); simp only [vem, veq, ne_eq, cmpI, arI, dvI, shI, SV.den, obLt, elemAt, obApp, partL, obPart, lowD, highD, mxOk, convL_self, zerosB, List.length_replicate, vln] at *; (try dsimp only [Shp.D, Shp.Ds, Shp.dflt, Shp.dflts] at *); done) | ((try dsimp only [Shp.D, Shp.Ds, Shp.dflt] at *); simp only [vem, veq, ne_eq, cmpI, arI, dvI, shI, SV.den, obLt, elemAt, obApp, partL, obPart, lowD, highD, mxOk, convL_self, zerosB, List.length_replicate, vln] at *; (try dsimp only [Shp.D, Shp.Ds, Shp.dflt, Shp.dflts] at *); omega) | (((try dsimp only [Shp.D, Shp.Ds, Shp.dflt] at *); simp only [vem, veq, ne_eq, cmpI, arI, dvI, shI, SV.den, obLt, elemAt, obApp, partL, obPart, lowD, highD, mxOk, convL_self, zerosB, List.length_replicate, vln] at *; (try dsimp only [Shp.D, Shp.Ds, Shp.dflt, Shp.dflts] at *); rw [hx.1] at h; cases h); done) | ((try dsimp only [Shp.D, Shp.Ds, Shp.dflt] at *); simp only [vem, veq, ne_eq, cmpI, arI, dvI, shI, SV.den, obLt, elemAt, obApp, partL, obPart, lowD, highD, mxOk, convL_self, zerosB, List.length_replicate, vln] at *; (try dsimp only [Shp.D, Shp.Ds, Shp.dflt, Shp.dflts] at *); exact absurd (hc1 (And.left (by assumption)) hr (by assumption)).1 h) | ((try dsimp only [Shp.D, Shp.Ds, Shp.dflt] at *); simp only [vem, veq, ne_eq, cmpI, arI, dvI, shI, SV.den, obLt, elemAt, obApp, partL, obPart, lowD, highD, mxOk, convL_self, zerosB, List.length_replicate, vln] at *; (try dsimp only [Shp.D, Shp.Ds, Shp.dflt, Shp.dflts] at *); exact absurd (hc1 (And.left (by assumption)) hr (by assumption)).2.1 (by omega)) | ((try dsimp only [Shp.D, Shp.Ds, Shp.dflt] at *); simp only [vem, veq, ne_eq, cmpI, arI, dvI, shI, SV.den, obLt, elemAt, obApp, partL, obPart, lowD, highD, mxOk, convL_self, zerosB, List.length_replicate, vln] at *; (try dsimp only [Shp.D, Shp.Ds, Shp.dflt, Shp.dflts] at *); exact hc3 (And.left (by assumption)) hr (by assumption) (by assumption)) | ((try dsimp only [Shp.D, Shp.Ds, Shp.dflt] at *); simp only [vem, veq, ne_eq, cmpI, arI, dvI, shI, SV.den, obLt, elemAt, obApp, partL, obPart, lowD, highD, mxOk, convL_self, zerosB, List.length_replicate, vln] at *; (try dsimp only [Shp.D, Shp.Ds, Shp.dflt, Shp.dflts] at *); have q := hc2 (And.left (by assumption)) hr (by assumption) (by assumption); omega) | ((try dsimp only [Shp.D, Shp.Ds, Shp.dflt] at *); simp only [vem, veq, ne_eq, cmpI, arI, dvI, shI, SV.den, obLt, elemAt, obApp, partL, obPart, lowD, highD, mxOk, convL_self, zerosB, List.length_replicate, vln] at *; (try dsimp only [Shp.D, Shp.Ds, Shp.dflt, Shp.dflts] at *); rw [k1]; omega) | ((try dsimp only [Shp.D, Shp.Ds, Shp.dflt] at *); simp only [vem, veq, ne_eq, cmpI, arI, dvI, shI, SV.den, obLt, elemAt, obApp, partL, obPart, lowD, highD, mxOk, convL_self, zerosB, List.length_replicate, vln] at *; (try dsimp only [Shp.D, Shp.Ds, Shp.dflt, Shp.dflts] at *); exact hc4 hr (by assumption)) | (try ((try dsimp only [Shp.D, Shp.Ds, Shp.dflt] at *); simp only [vem, veq, ne_eq, cmpI, arI, dvI, shI, SV.den, obLt, elemAt, obApp, partL, obPart, lowD, highD, mxOk, convL_self, zerosB, List.length_replicate, vln] at *; (try dsimp only [Shp.D, Shp.Ds, Shp.dflt, Shp.dflts] at *))))
theorem law_HeaderCuts (x : Shp.Ds hcAs) (w : World) (vals : List Value) (hr : ArgsRep w hcAs x vals) (hin : inrs hcAs x) : Calls Try.prog 6 vals.toArray w fun e w' => e = .returned (.bool true) ∧ Below w.heap.size w w' :=
  law_of_vc Try.func6 (by kernel_rfl) hcC_cx hr (hc_vc x hin)
end Go.Proofs.Ytfcpbeolhlkmnaa.V
