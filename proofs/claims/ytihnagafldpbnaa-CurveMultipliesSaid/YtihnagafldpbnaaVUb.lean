/- Curve: math/bits.Add64 and Mul64, (*wide).add. -/
import Derived.Test.YtihnagafldpbnaaVUa
import Derived.Laws.Externs
set_option linter.unusedVariables false
set_option linter.unusedSimpArgs false
namespace Go.Proofs.Ytihnagafldpbnaa.V
open Go.RowKit
set_option maxHeartbeats 8000000
set_option maxRecDepth 100000
theorem ext_same (ρ : Nm) (H : List Ent) (G : List FE) (w : World) : Ext ρ H G w ρ H G w .no :=
 ⟨fun e he _ => ⟨he, rfl, rfl⟩, fun id f _ hf _ => ⟨f, hf, rfl, Fk.refl ρ f, fun k _ => rfl⟩⟩
def add64S : Spec := fun lo hi id args s K => match args with
 | [.int .u64 x, .int .u64 y, .int .u64 c] => Ob (fun _ => (0 ≤ x.den ∧ x.den < 18446744073709551616) ∧ (0 ≤ y.den ∧ y.den < 18446744073709551616) ∧ 0 ≤ c.den ∧ c.den ≤ 1)
     (AllT (fun r : Int × Int => r.1 + 18446744073709551616 * r.2 = x.den + y.den + c.den ∧ (0 ≤ r.1 ∧ r.1 < 18446744073709551616) ∧ 0 ≤ r.2 ∧ r.2 ≤ 1) fun r => K (.tup [.int .u64 (.t fun _ => r.1), .int .u64 (.t fun _ => r.2)]) s)
 | _ => False
theorem add64_sp {E : Env} (hE : E.ok) : SpecOkX Try.prog E 35 add64S := by
 refine ⟨fun lo hi id args s K _ _ h ρ w hh ha => ?_⟩
 unfold add64S at h
 split at h
 ·rename_i x y c
  obtain ⟨⟨h1, g1⟩, ⟨h2, g2⟩, h3, h4⟩ := h.ob ()
  have hk := h.k.all ((x.den + y.den + c.den) % 18446744073709551616, (x.den + y.den + c.den) / 18446744073709551616) ⟨by dsimp only; omega, by dsimp only; omega, by dsimp only; omega, by dsimp only; omega⟩
  refine ⟨_, s, ρ, ?_, hk, hh, fun ρ'' hr => ⟨hr, ?_⟩, ext_same _ _ _ _⟩
  ·simp only [SV.dens, SV.den]
   rw [run_callFunc_extern Try.func35 (by kernel_rfl) (by kernel_rfl) (by kernel_rfl) (e := add64Entry) (by kernel_rfl)]
   show ((add64Entry #[Value.int IntKind.u64 x.den, Value.int IntKind.u64 y.den, Value.int IntKind.u64 c.den]).run Try.prog w).andThen _ = _
   rw [run_add64 _ _ _ h1 h2 h3 h4]
   simp only [Result.andThen, den_t]
  ·simp only [SV.dens, SV.den, den_t]
 ·exact h.elim
theorem maskN (a : Nat) (ha : a < 18446744073709551616) : bits .and .u64 (a : Int) 4294967295 = ((a % 4294967296 : Nat) : Int) := by
 have h := bits_and_u64_nat a 4294967295 ha (by omega)
 have e : a &&& 4294967295 = a % 4294967296 := Nat.and_two_pow_sub_one_eq_mod a 32
 rw [e] at h
 exact h
theorem shrN (a : Nat) : (a : Int).fdiv (2 ^ min (Int.toNat 32) IntKind.u64.bits) = ((a / 4294967296 : Nat) : Int) := by
 show (a : Int).fdiv (2 ^ 32) = _
 rw [Int.fdiv_eq_ediv_of_nonneg _ (by decide)]
 omega
theorem mulN (a b : Nat) : (a : Int) * (b : Int) = ((a * b : Nat) : Int) := (Int.natCast_mul a b).symm
theorem addN (a b : Nat) : (a : Int) + (b : Int) = ((a + b : Nat) : Int) := (Int.natCast_add a b).symm
theorem wrapN (a : Nat) (ha : a < 18446744073709551616) : IntKind.u64.wrap (a : Int) = (a : Int) := by rw [IntKind.wrap_u64]; omega
theorem mul64_eq (x y : Nat) (hx : x < 18446744073709551616) (hy : y < 18446744073709551616) : IntKind.u64.wrap (IntKind.u64.wrap (IntKind.u64.wrap ((x : Int).fdiv (2 ^ min (Int.toNat 32) IntKind.u64.bits) * (y : Int).fdiv (2 ^ min (Int.toNat 32) IntKind.u64.bits)) + (IntKind.u64.wrap (IntKind.u64.wrap ((x : Int).fdiv (2 ^ min (Int.toNat 32) IntKind.u64.bits) * bits BinOp.and .u64 y 4294967295) + (IntKind.u64.wrap (bits BinOp.and .u64 x 4294967295 * bits BinOp.and .u64 y 4294967295)).fdiv (2 ^ min (Int.toNat 32) IntKind.u64.bits))).fdiv (2 ^ min (Int.toNat 32) IntKind.u64.bits)) + (IntKind.u64.wrap (bits BinOp.and .u64 (IntKind.u64.wrap (IntKind.u64.wrap ((x : Int).fdiv (2 ^ min (Int.toNat 32) IntKind.u64.bits) * bits BinOp.and .u64 y 4294967295) + (IntKind.u64.wrap (bits BinOp.and .u64 x 4294967295 * bits BinOp.and .u64 y 4294967295)).fdiv (2 ^ min (Int.toNat 32) IntKind.u64.bits))) 4294967295 + IntKind.u64.wrap (bits BinOp.and .u64 x 4294967295 * (y : Int).fdiv (2 ^ min (Int.toNat 32) IntKind.u64.bits)))).fdiv (2 ^ min (Int.toNat 32) IntKind.u64.bits)) = (x : Int) * (y : Int) / 18446744073709551616 := by
 obtain ⟨bd, bt, bw, hhi⟩ := Go.Lib.mul64_hi x y hx hy
 have ba := Go.Lib.half_mul_le (a := x / 4294967296) (b := y / 4294967296) (by omega) (by omega)
 have bb := Go.Lib.half_mul_le (a := x / 4294967296) (b := y % 4294967296) (by omega) (by omega)
 have bc := Go.Lib.half_mul_le (a := x % 4294967296) (b := y / 4294967296) (by omega) (by omega)
 have ba' : x / 4294967296 * (y / 4294967296) < 18446744073709551616 := by omega
 have bb' : x / 4294967296 * (y % 4294967296) < 18446744073709551616 := by omega
 have bc' : x % 4294967296 * (y / 4294967296) < 18446744073709551616 := by omega
 have bh1 : x / 4294967296 * (y / 4294967296) + (x / 4294967296 * (y % 4294967296) + x % 4294967296 * (y % 4294967296) / 4294967296) / 4294967296 < 18446744073709551616 := by omega
 have bh : x / 4294967296 * (y / 4294967296) + (x / 4294967296 * (y % 4294967296) + x % 4294967296 * (y % 4294967296) / 4294967296) / 4294967296 + ((x / 4294967296 * (y % 4294967296) + x % 4294967296 * (y % 4294967296) / 4294967296) % 4294967296 + x % 4294967296 * (y / 4294967296)) / 4294967296 < 18446744073709551616 := by omega
 simp only [maskN x hx, maskN y hy, shrN, mulN, addN, wrapN _ bd, wrapN _ bb', wrapN _ bt, maskN _ bt, wrapN _ bc', wrapN _ bw, wrapN _ ba', wrapN _ bh1, wrapN _ bh]
 rw [hhi]
 omega
abbrev mulSp : Spec := fnSpec [.int .u64, .int .u64] [.int .u64, .int .u64] [] (fun x => (0 ≤ x.1 ∧ x.1 < 18446744073709551616) ∧ 0 ≤ x.2.1 ∧ x.2.1 < 18446744073709551616) fun x y => y.2.1 + 18446744073709551616 * y.1 = x.1 * x.2.1 ∧ (0 ≤ y.1 ∧ y.1 < 18446744073709551616) ∧ 0 ≤ y.2.1 ∧ y.2.1 < 18446744073709551616
def umC_t : SpecT := fun _ => none
def umC : Cx := ⟨tt, qt, bt, st, umC_t, 0, 1000000000000000, fun _ => none, false, CxE.no, []⟩
theorem umC_si {E : Env} (h : E.ok) : SpecsOk Try.prog E (CxE.no) umC_t (fun _ => none) := ⟨(fun t f h => by cases h), noI_ok _ _ _⟩
theorem umC_x {E : Env} (h : E.ok) : CxEOk Try.prog E (CxE.no) := CxE.no_ok _ _
theorem umC_cx (E : Env) (h : E.ok) (h1 : E.lo = 0) (h2 : E.hi = 1000000000000000) : Cx.ok umC Try.prog E := ⟨tt_ok, qt_ok, bt_ok, umC_si h, h, h1, h2, mixed_ok, umC_x h⟩
theorem umC_from (lo hi : Nat) (E : Env) (h : E.ok) (h1 : E.lo = lo) (h2 : E.hi = hi) : Cx.ok (Cx.from umC lo hi) Try.prog E := ⟨tt_ok, qt_ok, bt_ok, umC_si h, h, h1, h2, mixed_ok, umC_x h⟩
theorem m64_fn : hasFn Try.prog 36 := ⟨_, Try.func36, by rfl, by rfl⟩
theorem m64_sp {E : Env} (hE : E.ok) : SpecOk Try.prog E 36 mulSp := by
 refine spec_of_vc (C := umC) m64_fn Try.func36 (by kernel_rfl) umC_cx (fun x hl hx => ?_) hE
 obtain ⟨x, y, ⟨⟩⟩ := x
 obtain ⟨⟨x0, x1⟩, y0, y1⟩ := hx
 dsimp only at x0 x1 y0 y1
 cbv
 (repeat' (first | ((with_reducible refine And.intro (fun h => ?_) (fun h => ?_)) <;> (first | with_reducible exact (tf h (by assumption)).elim | with_reducible exact (tf (by assumption) h).elim | cbv)) | ((with_reducible show JoinT (fun s K => vc _ (Code.region _ _ true) s K) _ _ _ _ _ _); (with_reducible apply JoinT.mg2); (focus (cbv; (repeat' (first | ((with_reducible refine And.intro (fun h => ?_) (fun h => ?_)) <;> (first | with_reducible exact (tf h (by assumption)).elim | with_reducible exact (tf (by assumption) h).elim | cbv)) | ((with_reducible first | refine Cb.mk ?_ | refine Lz.mk ?_ | refine JoinT.left ?_ | refine AllT.mk (fun x hx => ?_)); cbv) | ((with_reducible refine Ob.mk (fun _ => ?_) ?_); rotate_left 1) | (with_reducible first | refine Mg.mk (Exists.intro ?_ (And.intro ?_ ?_)) | rfl | refine Fin.mk ?_ | exact True.intro | refine And.intro ?_ ?_))); (all_goals (try (have du : Unit := (); have dv : Unit := (); first | exact Goes.self (Ex2.mk ⟨dv, du, trivial, trivial, rfl⟩) | exact Goes.self (Ex2.mk ⟨x, du, hx, trivial, rfl⟩) | (rename_i xa hxa; exact Goes.self (Ex2.mk ⟨xa, x, hxa, hx, rfl⟩))))); (all_goals (fail_if_success (with_reducible first | show Goes _ _ _ _ | show (∃ _, unr _ _ _ _ _ _))))))) | ((with_reducible first | refine Cb.mk ?_ | refine Lz.mk ?_ | refine JoinT.left ?_ | refine AllT.mk (fun x hx => ?_)); cbv) | ((with_reducible refine Ob.mk (fun _ => ?_) ?_); rotate_left 1) | (with_reducible first | refine Mg.mk (Exists.intro ?_ (And.intro ?_ ?_)) | rfl | refine Fin.mk ?_ | exact True.intro | refine And.intro ?_ ?_)))
 all_goals first | (with_reducible show (∃ _, unr _ _ _ _ _ _); skip) | (with_reducible show UnrI _ _ _ _ _; skip) | (with_reducible show Goes _ _ _ _; skip) | (with_reducible show JoinT _ _ _ _ _ _ _; skip) | (first | ((try dsimp only [Shp.D, Shp.Ds, Shp.dflt] at *); simp only [vem, veq, ne_eq, cmpI, arI, dvI, shI, SV.den, obLt, elemAt, obApp, partL, obPart, lowD, highD, mxOk, convL_self, zerosB, List.length_replicate, vln] at *; (try dsimp only [Shp.D, Shp.Ds, Shp.dflt, Shp.dflts] at *); done) | (try ((try dsimp only [Shp.D, Shp.Ds, Shp.dflt] at *); simp only [vem, veq, ne_eq, cmpI, arI, dvI, shI, SV.den, obLt, elemAt, obApp, partL, obPart, lowD, highD, mxOk, convL_self, zerosB, List.length_replicate, vln] at *; (try dsimp only [Shp.D, Shp.Ds, Shp.dflt, Shp.dflts] at *))))
 all_goals
  obtain ⟨a, rfl⟩ := Int.eq_ofNat_of_zero_le x0
  obtain ⟨b, rfl⟩ := Int.eq_ofNat_of_zero_le y0
  have e := mul64_eq a b (by omega) (by omega)
  have hb : (a : Int) * b ≤ 18446744073709551615 * 18446744073709551615 := Int.mul_le_mul (by omega) (by omega) y0 (by omega)
  have h0 : 0 ≤ (a : Int) * b := Int.mul_nonneg x0 y0
  first
   | (rw [e, IntKind.wrap_u64]; generalize (a : Int) * b = p at hb h0; omega)
   | (rw [e]; generalize (a : Int) * b = p at hb h0; omega)
   | (rw [IntKind.wrap_u64]; omega)
end Go.Proofs.Ytihnagafldpbnaa.V
