/- Curve: read (printed by wip/genread.py). -/
import Derived.Test.YtihnagafldpbnaaVUk
set_option linter.unusedVariables false
set_option linter.unusedSimpArgs false
namespace Go.Proofs.Ytihnagafldpbnaa.V
open Go.RowKit
set_option maxHeartbeats 80000000
set_option maxRecDepth 100000
abbrev redSp : Spec := fnSpec [.sl .byte] [elE] [] (fun (x : Shp.Ds [.sl .byte]) => x.1.length = 32) fun (x : Shp.Ds [.sl .byte]) (y : Shp.Ds [elE]) => LimE 2251799813947392 y.1 ∧ valE y.1 = leV x.1 % 57896044618658097711785492504343953926634992332820282019728792003956564819968
theorem rdl_0 (b : UInt8) : bits .and .u64 (IntKind.u64.wrap ((b.toNat : Int) * 2 ^ min (Int.toNat 0) IntKind.u64.bits)) 2251799813685247 = (b.toNat : Int) * 1 := by
 have h := b.toNat_lt
 rw [show (2 : Int) ^ min (Int.toNat 0) IntKind.u64.bits = 1 from rfl, and51 (by rw [IntKind.wrap_u64]; omega), IntKind.wrap_u64]
 omega
theorem rdl_2 (b : UInt8) : bits .and .u64 (IntKind.u64.wrap ((b.toNat : Int) * 2 ^ min (Int.toNat 2) IntKind.u64.bits)) 2251799813685247 = (b.toNat : Int) * 4 := by
 have h := b.toNat_lt
 rw [show (2 : Int) ^ min (Int.toNat 2) IntKind.u64.bits = 4 from rfl, and51 (by rw [IntKind.wrap_u64]; omega), IntKind.wrap_u64]
 omega
theorem rdl_4 (b : UInt8) : bits .and .u64 (IntKind.u64.wrap ((b.toNat : Int) * 2 ^ min (Int.toNat 4) IntKind.u64.bits)) 2251799813685247 = (b.toNat : Int) * 16 := by
 have h := b.toNat_lt
 rw [show (2 : Int) ^ min (Int.toNat 4) IntKind.u64.bits = 16 from rfl, and51 (by rw [IntKind.wrap_u64]; omega), IntKind.wrap_u64]
 omega
theorem rdl_5 (b : UInt8) : bits .and .u64 (IntKind.u64.wrap ((b.toNat : Int) * 2 ^ min (Int.toNat 5) IntKind.u64.bits)) 2251799813685247 = (b.toNat : Int) * 32 := by
 have h := b.toNat_lt
 rw [show (2 : Int) ^ min (Int.toNat 5) IntKind.u64.bits = 32 from rfl, and51 (by rw [IntKind.wrap_u64]; omega), IntKind.wrap_u64]
 omega
theorem rdl_7 (b : UInt8) : bits .and .u64 (IntKind.u64.wrap ((b.toNat : Int) * 2 ^ min (Int.toNat 7) IntKind.u64.bits)) 2251799813685247 = (b.toNat : Int) * 128 := by
 have h := b.toNat_lt
 rw [show (2 : Int) ^ min (Int.toNat 7) IntKind.u64.bits = 128 from rfl, and51 (by rw [IntKind.wrap_u64]; omega), IntKind.wrap_u64]
 omega
theorem rdl_8 (b : UInt8) : bits .and .u64 (IntKind.u64.wrap ((b.toNat : Int) * 2 ^ min (Int.toNat 8) IntKind.u64.bits)) 2251799813685247 = (b.toNat : Int) * 256 := by
 have h := b.toNat_lt
 rw [show (2 : Int) ^ min (Int.toNat 8) IntKind.u64.bits = 256 from rfl, and51 (by rw [IntKind.wrap_u64]; omega), IntKind.wrap_u64]
 omega
theorem rdl_10 (b : UInt8) : bits .and .u64 (IntKind.u64.wrap ((b.toNat : Int) * 2 ^ min (Int.toNat 10) IntKind.u64.bits)) 2251799813685247 = (b.toNat : Int) * 1024 := by
 have h := b.toNat_lt
 rw [show (2 : Int) ^ min (Int.toNat 10) IntKind.u64.bits = 1024 from rfl, and51 (by rw [IntKind.wrap_u64]; omega), IntKind.wrap_u64]
 omega
theorem rdl_12 (b : UInt8) : bits .and .u64 (IntKind.u64.wrap ((b.toNat : Int) * 2 ^ min (Int.toNat 12) IntKind.u64.bits)) 2251799813685247 = (b.toNat : Int) * 4096 := by
 have h := b.toNat_lt
 rw [show (2 : Int) ^ min (Int.toNat 12) IntKind.u64.bits = 4096 from rfl, and51 (by rw [IntKind.wrap_u64]; omega), IntKind.wrap_u64]
 omega
theorem rdl_13 (b : UInt8) : bits .and .u64 (IntKind.u64.wrap ((b.toNat : Int) * 2 ^ min (Int.toNat 13) IntKind.u64.bits)) 2251799813685247 = (b.toNat : Int) * 8192 := by
 have h := b.toNat_lt
 rw [show (2 : Int) ^ min (Int.toNat 13) IntKind.u64.bits = 8192 from rfl, and51 (by rw [IntKind.wrap_u64]; omega), IntKind.wrap_u64]
 omega
theorem rdl_15 (b : UInt8) : bits .and .u64 (IntKind.u64.wrap ((b.toNat : Int) * 2 ^ min (Int.toNat 15) IntKind.u64.bits)) 2251799813685247 = (b.toNat : Int) * 32768 := by
 have h := b.toNat_lt
 rw [show (2 : Int) ^ min (Int.toNat 15) IntKind.u64.bits = 32768 from rfl, and51 (by rw [IntKind.wrap_u64]; omega), IntKind.wrap_u64]
 omega
theorem rdl_16 (b : UInt8) : bits .and .u64 (IntKind.u64.wrap ((b.toNat : Int) * 2 ^ min (Int.toNat 16) IntKind.u64.bits)) 2251799813685247 = (b.toNat : Int) * 65536 := by
 have h := b.toNat_lt
 rw [show (2 : Int) ^ min (Int.toNat 16) IntKind.u64.bits = 65536 from rfl, and51 (by rw [IntKind.wrap_u64]; omega), IntKind.wrap_u64]
 omega
theorem rdl_18 (b : UInt8) : bits .and .u64 (IntKind.u64.wrap ((b.toNat : Int) * 2 ^ min (Int.toNat 18) IntKind.u64.bits)) 2251799813685247 = (b.toNat : Int) * 262144 := by
 have h := b.toNat_lt
 rw [show (2 : Int) ^ min (Int.toNat 18) IntKind.u64.bits = 262144 from rfl, and51 (by rw [IntKind.wrap_u64]; omega), IntKind.wrap_u64]
 omega
theorem rdl_20 (b : UInt8) : bits .and .u64 (IntKind.u64.wrap ((b.toNat : Int) * 2 ^ min (Int.toNat 20) IntKind.u64.bits)) 2251799813685247 = (b.toNat : Int) * 1048576 := by
 have h := b.toNat_lt
 rw [show (2 : Int) ^ min (Int.toNat 20) IntKind.u64.bits = 1048576 from rfl, and51 (by rw [IntKind.wrap_u64]; omega), IntKind.wrap_u64]
 omega
theorem rdl_21 (b : UInt8) : bits .and .u64 (IntKind.u64.wrap ((b.toNat : Int) * 2 ^ min (Int.toNat 21) IntKind.u64.bits)) 2251799813685247 = (b.toNat : Int) * 2097152 := by
 have h := b.toNat_lt
 rw [show (2 : Int) ^ min (Int.toNat 21) IntKind.u64.bits = 2097152 from rfl, and51 (by rw [IntKind.wrap_u64]; omega), IntKind.wrap_u64]
 omega
theorem rdl_23 (b : UInt8) : bits .and .u64 (IntKind.u64.wrap ((b.toNat : Int) * 2 ^ min (Int.toNat 23) IntKind.u64.bits)) 2251799813685247 = (b.toNat : Int) * 8388608 := by
 have h := b.toNat_lt
 rw [show (2 : Int) ^ min (Int.toNat 23) IntKind.u64.bits = 8388608 from rfl, and51 (by rw [IntKind.wrap_u64]; omega), IntKind.wrap_u64]
 omega
theorem rdl_24 (b : UInt8) : bits .and .u64 (IntKind.u64.wrap ((b.toNat : Int) * 2 ^ min (Int.toNat 24) IntKind.u64.bits)) 2251799813685247 = (b.toNat : Int) * 16777216 := by
 have h := b.toNat_lt
 rw [show (2 : Int) ^ min (Int.toNat 24) IntKind.u64.bits = 16777216 from rfl, and51 (by rw [IntKind.wrap_u64]; omega), IntKind.wrap_u64]
 omega
theorem rdl_26 (b : UInt8) : bits .and .u64 (IntKind.u64.wrap ((b.toNat : Int) * 2 ^ min (Int.toNat 26) IntKind.u64.bits)) 2251799813685247 = (b.toNat : Int) * 67108864 := by
 have h := b.toNat_lt
 rw [show (2 : Int) ^ min (Int.toNat 26) IntKind.u64.bits = 67108864 from rfl, and51 (by rw [IntKind.wrap_u64]; omega), IntKind.wrap_u64]
 omega
theorem rdl_28 (b : UInt8) : bits .and .u64 (IntKind.u64.wrap ((b.toNat : Int) * 2 ^ min (Int.toNat 28) IntKind.u64.bits)) 2251799813685247 = (b.toNat : Int) * 268435456 := by
 have h := b.toNat_lt
 rw [show (2 : Int) ^ min (Int.toNat 28) IntKind.u64.bits = 268435456 from rfl, and51 (by rw [IntKind.wrap_u64]; omega), IntKind.wrap_u64]
 omega
theorem rdl_29 (b : UInt8) : bits .and .u64 (IntKind.u64.wrap ((b.toNat : Int) * 2 ^ min (Int.toNat 29) IntKind.u64.bits)) 2251799813685247 = (b.toNat : Int) * 536870912 := by
 have h := b.toNat_lt
 rw [show (2 : Int) ^ min (Int.toNat 29) IntKind.u64.bits = 536870912 from rfl, and51 (by rw [IntKind.wrap_u64]; omega), IntKind.wrap_u64]
 omega
theorem rdl_31 (b : UInt8) : bits .and .u64 (IntKind.u64.wrap ((b.toNat : Int) * 2 ^ min (Int.toNat 31) IntKind.u64.bits)) 2251799813685247 = (b.toNat : Int) * 2147483648 := by
 have h := b.toNat_lt
 rw [show (2 : Int) ^ min (Int.toNat 31) IntKind.u64.bits = 2147483648 from rfl, and51 (by rw [IntKind.wrap_u64]; omega), IntKind.wrap_u64]
 omega
theorem rdl_32 (b : UInt8) : bits .and .u64 (IntKind.u64.wrap ((b.toNat : Int) * 2 ^ min (Int.toNat 32) IntKind.u64.bits)) 2251799813685247 = (b.toNat : Int) * 4294967296 := by
 have h := b.toNat_lt
 rw [show (2 : Int) ^ min (Int.toNat 32) IntKind.u64.bits = 4294967296 from rfl, and51 (by rw [IntKind.wrap_u64]; omega), IntKind.wrap_u64]
 omega
theorem rdl_34 (b : UInt8) : bits .and .u64 (IntKind.u64.wrap ((b.toNat : Int) * 2 ^ min (Int.toNat 34) IntKind.u64.bits)) 2251799813685247 = (b.toNat : Int) * 17179869184 := by
 have h := b.toNat_lt
 rw [show (2 : Int) ^ min (Int.toNat 34) IntKind.u64.bits = 17179869184 from rfl, and51 (by rw [IntKind.wrap_u64]; omega), IntKind.wrap_u64]
 omega
theorem rdl_36 (b : UInt8) : bits .and .u64 (IntKind.u64.wrap ((b.toNat : Int) * 2 ^ min (Int.toNat 36) IntKind.u64.bits)) 2251799813685247 = (b.toNat : Int) * 68719476736 := by
 have h := b.toNat_lt
 rw [show (2 : Int) ^ min (Int.toNat 36) IntKind.u64.bits = 68719476736 from rfl, and51 (by rw [IntKind.wrap_u64]; omega), IntKind.wrap_u64]
 omega
theorem rdl_37 (b : UInt8) : bits .and .u64 (IntKind.u64.wrap ((b.toNat : Int) * 2 ^ min (Int.toNat 37) IntKind.u64.bits)) 2251799813685247 = (b.toNat : Int) * 137438953472 := by
 have h := b.toNat_lt
 rw [show (2 : Int) ^ min (Int.toNat 37) IntKind.u64.bits = 137438953472 from rfl, and51 (by rw [IntKind.wrap_u64]; omega), IntKind.wrap_u64]
 omega
theorem rdl_39 (b : UInt8) : bits .and .u64 (IntKind.u64.wrap ((b.toNat : Int) * 2 ^ min (Int.toNat 39) IntKind.u64.bits)) 2251799813685247 = (b.toNat : Int) * 549755813888 := by
 have h := b.toNat_lt
 rw [show (2 : Int) ^ min (Int.toNat 39) IntKind.u64.bits = 549755813888 from rfl, and51 (by rw [IntKind.wrap_u64]; omega), IntKind.wrap_u64]
 omega
theorem rdl_40 (b : UInt8) : bits .and .u64 (IntKind.u64.wrap ((b.toNat : Int) * 2 ^ min (Int.toNat 40) IntKind.u64.bits)) 2251799813685247 = (b.toNat : Int) * 1099511627776 := by
 have h := b.toNat_lt
 rw [show (2 : Int) ^ min (Int.toNat 40) IntKind.u64.bits = 1099511627776 from rfl, and51 (by rw [IntKind.wrap_u64]; omega), IntKind.wrap_u64]
 omega
theorem rdl_42 (b : UInt8) : bits .and .u64 (IntKind.u64.wrap ((b.toNat : Int) * 2 ^ min (Int.toNat 42) IntKind.u64.bits)) 2251799813685247 = (b.toNat : Int) * 4398046511104 := by
 have h := b.toNat_lt
 rw [show (2 : Int) ^ min (Int.toNat 42) IntKind.u64.bits = 4398046511104 from rfl, and51 (by rw [IntKind.wrap_u64]; omega), IntKind.wrap_u64]
 omega
theorem rdl_44 (b : UInt8) : bits .and .u64 (IntKind.u64.wrap ((b.toNat : Int) * 2 ^ min (Int.toNat 44) IntKind.u64.bits)) 2251799813685247 = (b.toNat : Int) * 17592186044416 % 2251799813685248 := by
 have h := b.toNat_lt
 rw [show (2 : Int) ^ min (Int.toNat 44) IntKind.u64.bits = 17592186044416 from rfl, and51 (by rw [IntKind.wrap_u64]; omega), IntKind.wrap_u64]
 omega
theorem rdl_45 (b : UInt8) : bits .and .u64 (IntKind.u64.wrap ((b.toNat : Int) * 2 ^ min (Int.toNat 45) IntKind.u64.bits)) 2251799813685247 = (b.toNat : Int) * 35184372088832 % 2251799813685248 := by
 have h := b.toNat_lt
 rw [show (2 : Int) ^ min (Int.toNat 45) IntKind.u64.bits = 35184372088832 from rfl, and51 (by rw [IntKind.wrap_u64]; omega), IntKind.wrap_u64]
 omega
theorem rdl_47 (b : UInt8) : bits .and .u64 (IntKind.u64.wrap ((b.toNat : Int) * 2 ^ min (Int.toNat 47) IntKind.u64.bits)) 2251799813685247 = (b.toNat : Int) * 140737488355328 % 2251799813685248 := by
 have h := b.toNat_lt
 rw [show (2 : Int) ^ min (Int.toNat 47) IntKind.u64.bits = 140737488355328 from rfl, and51 (by rw [IntKind.wrap_u64]; omega), IntKind.wrap_u64]
 omega
theorem rdl_48 (b : UInt8) : bits .and .u64 (IntKind.u64.wrap ((b.toNat : Int) * 2 ^ min (Int.toNat 48) IntKind.u64.bits)) 2251799813685247 = (b.toNat : Int) * 281474976710656 % 2251799813685248 := by
 have h := b.toNat_lt
 rw [show (2 : Int) ^ min (Int.toNat 48) IntKind.u64.bits = 281474976710656 from rfl, and51 (by rw [IntKind.wrap_u64]; omega), IntKind.wrap_u64]
 omega
theorem rdl_50 (b : UInt8) : bits .and .u64 (IntKind.u64.wrap ((b.toNat : Int) * 2 ^ min (Int.toNat 50) IntKind.u64.bits)) 2251799813685247 = (b.toNat : Int) * 1125899906842624 % 2251799813685248 := by
 have h := b.toNat_lt
 rw [show (2 : Int) ^ min (Int.toNat 50) IntKind.u64.bits = 1125899906842624 from rfl, and51 (by rw [IntKind.wrap_u64]; omega), IntKind.wrap_u64]
 omega
theorem rdr_1 (a : Int) : a.fdiv (2 ^ min (Int.toNat 1) IntKind.u64.bits) = a / 2 := by
 show a.fdiv (2 ^ 1) = _
 exact Int.fdiv_eq_ediv_of_nonneg a (by decide)
theorem rdr_3 (a : Int) : a.fdiv (2 ^ min (Int.toNat 3) IntKind.u64.bits) = a / 8 := by
 show a.fdiv (2 ^ 3) = _
 exact Int.fdiv_eq_ediv_of_nonneg a (by decide)
theorem rdr_4 (a : Int) : a.fdiv (2 ^ min (Int.toNat 4) IntKind.u64.bits) = a / 16 := by
 show a.fdiv (2 ^ 4) = _
 exact Int.fdiv_eq_ediv_of_nonneg a (by decide)
theorem rdr_6 (a : Int) : a.fdiv (2 ^ min (Int.toNat 6) IntKind.u64.bits) = a / 64 := by
 show a.fdiv (2 ^ 6) = _
 exact Int.fdiv_eq_ediv_of_nonneg a (by decide)
theorem leV_32 (l : List UInt8) (h : l.length = 32) : leV l = 1 * ((l.getD 0 0).toNat : Int) + 256 * ((l.getD 1 0).toNat : Int) + 65536 * ((l.getD 2 0).toNat : Int) + 16777216 * ((l.getD 3 0).toNat : Int) + 4294967296 * ((l.getD 4 0).toNat : Int) + 1099511627776 * ((l.getD 5 0).toNat : Int) + 281474976710656 * ((l.getD 6 0).toNat : Int) + 72057594037927936 * ((l.getD 7 0).toNat : Int) + 18446744073709551616 * ((l.getD 8 0).toNat : Int) + 4722366482869645213696 * ((l.getD 9 0).toNat : Int) + 1208925819614629174706176 * ((l.getD 10 0).toNat : Int) + 309485009821345068724781056 * ((l.getD 11 0).toNat : Int) + 79228162514264337593543950336 * ((l.getD 12 0).toNat : Int) + 20282409603651670423947251286016 * ((l.getD 13 0).toNat : Int) + 5192296858534827628530496329220096 * ((l.getD 14 0).toNat : Int) + 1329227995784915872903807060280344576 * ((l.getD 15 0).toNat : Int) + 340282366920938463463374607431768211456 * ((l.getD 16 0).toNat : Int) + 87112285931760246646623899502532662132736 * ((l.getD 17 0).toNat : Int) + 22300745198530623141535718272648361505980416 * ((l.getD 18 0).toNat : Int) + 5708990770823839524233143877797980545530986496 * ((l.getD 19 0).toNat : Int) + 1461501637330902918203684832716283019655932542976 * ((l.getD 20 0).toNat : Int) + 374144419156711147060143317175368453031918731001856 * ((l.getD 21 0).toNat : Int) + 95780971304118053647396689196894323976171195136475136 * ((l.getD 22 0).toNat : Int) + 24519928653854221733733552434404946937899825954937634816 * ((l.getD 23 0).toNat : Int) + 6277101735386680763835789423207666416102355444464034512896 * ((l.getD 24 0).toNat : Int) + 1606938044258990275541962092341162602522202993782792835301376 * ((l.getD 25 0).toNat : Int) + 411376139330301510538742295639337626245683966408394965837152256 * ((l.getD 26 0).toNat : Int) + 105312291668557186697918027683670432318895095400549111254310977536 * ((l.getD 27 0).toNat : Int) + 26959946667150639794667015087019630673637144422540572481103610249216 * ((l.getD 28 0).toNat : Int) + 6901746346790563787434755862277025452451108972170386555162524223799296 * ((l.getD 29 0).toNat : Int) + 1766847064778384329583297500742918515827483896875618958121606201292619776 * ((l.getD 30 0).toNat : Int) + 452312848583266388373324160190187140051835877600158453279131187530910662656 * ((l.getD 31 0).toNat : Int) := by
 match l, h with
 | [b0, b1, b2, b3, b4, b5, b6, b7, b8, b9, b10, b11, b12, b13, b14, b15, b16, b17, b18, b19, b20, b21, b22, b23, b24, b25, b26, b27, b28, b29, b30, b31], _ =>
   simp only [leV, List.getD_cons_zero, List.getD_cons_succ]
   omega
theorem byte_rng (b : UInt8) : 0 ≤ (b.toNat : Int) ∧ (b.toNat : Int) < 256 := by
 have := b.toNat_lt
 omega
theorem wrb8 (b : UInt8) : IntKind.u64.wrap (b.toNat : Int) = (b.toNat : Int) := wru (by have := b.toNat_lt; omega)
def urC_t : SpecT := fun _ => none
def urC : Cx := ⟨tt, qt, bt, st, urC_t, 0, 1000000000000000, fun _ => none, false, CxE.no, []⟩
theorem urC_si {E : Env} (h : E.ok) : SpecsOk Try.prog E (CxE.no) urC_t (fun _ => none) := ⟨(fun t f h => by cases h), noI_ok _ _ _⟩
theorem urC_x {E : Env} (h : E.ok) : CxEOk Try.prog E (CxE.no) := CxE.no_ok _ _
theorem urC_cx (E : Env) (h : E.ok) (h1 : E.lo = 0) (h2 : E.hi = 1000000000000000) : Cx.ok urC Try.prog E := ⟨tt_ok, qt_ok, bt_ok, urC_si h, h, h1, h2, mixed_ok, urC_x h⟩
theorem urC_from (lo hi : Nat) (E : Env) (h : E.ok) (h1 : E.lo = lo) (h2 : E.hi = hi) : Cx.ok (Cx.from urC lo hi) Try.prog E := ⟨tt_ok, qt_ok, bt_ok, urC_si h, h, h1, h2, mixed_ok, urC_x h⟩
theorem red_fn : hasFn Try.prog 17 := ⟨_, Try.func17, by rfl, by rfl⟩
theorem red_sp {E : Env} (hE : E.ok) : SpecOk Try.prog E 17 redSp := by
 refine spec_of_vc (C := urC) red_fn Try.func17 (by kernel_rfl) urC_cx (fun x hl hx => ?_) hE
 obtain ⟨x, ⟨⟩⟩ := x
 have hx : x.length = 32 := hx
 have hv := leV_32 x hx
 have n0 := byte_rng (x.getD 0 0)
 have n1 := byte_rng (x.getD 1 0)
 have n2 := byte_rng (x.getD 2 0)
 have n3 := byte_rng (x.getD 3 0)
 have n4 := byte_rng (x.getD 4 0)
 have n5 := byte_rng (x.getD 5 0)
 have n6 := byte_rng (x.getD 6 0)
 have n7 := byte_rng (x.getD 7 0)
 have n8 := byte_rng (x.getD 8 0)
 have n9 := byte_rng (x.getD 9 0)
 have n10 := byte_rng (x.getD 10 0)
 have n11 := byte_rng (x.getD 11 0)
 have n12 := byte_rng (x.getD 12 0)
 have n13 := byte_rng (x.getD 13 0)
 have n14 := byte_rng (x.getD 14 0)
 have n15 := byte_rng (x.getD 15 0)
 have n16 := byte_rng (x.getD 16 0)
 have n17 := byte_rng (x.getD 17 0)
 have n18 := byte_rng (x.getD 18 0)
 have n19 := byte_rng (x.getD 19 0)
 have n20 := byte_rng (x.getD 20 0)
 have n21 := byte_rng (x.getD 21 0)
 have n22 := byte_rng (x.getD 22 0)
 have n23 := byte_rng (x.getD 23 0)
 have n24 := byte_rng (x.getD 24 0)
 have n25 := byte_rng (x.getD 25 0)
 have n26 := byte_rng (x.getD 26 0)
 have n27 := byte_rng (x.getD 27 0)
 have n28 := byte_rng (x.getD 28 0)
 have n29 := byte_rng (x.getD 29 0)
 have n30 := byte_rng (x.getD 30 0)
 have n31 := byte_rng (x.getD 31 0)
 cbv
 (repeat' (first | ((with_reducible refine And.intro (fun h => ?_) (fun h => ?_)) <;> (first | with_reducible exact (tf h (by assumption)).elim | with_reducible exact (tf (by assumption) h).elim | cbv)) | ((with_reducible show JoinT (fun s K => vc _ (Code.region _ _ true) s K) _ _ _ _ _ _); (with_reducible apply JoinT.mg2); (focus (cbv; (repeat' (first | ((with_reducible refine And.intro (fun h => ?_) (fun h => ?_)) <;> (first | with_reducible exact (tf h (by assumption)).elim | with_reducible exact (tf (by assumption) h).elim | cbv)) | ((with_reducible first | refine Cb.mk ?_ | refine Lz.mk ?_ | refine JoinT.left ?_ | refine AllT.mk (fun x hx => ?_)); cbv) | ((with_reducible refine Ob.mk (fun _ => ?_) ?_); rotate_left 1) | (with_reducible first | refine Mg.mk (Exists.intro ?_ (And.intro ?_ ?_)) | rfl | refine Fin.mk ?_ | exact True.intro | refine And.intro ?_ ?_))); (all_goals (try (have du : Unit := (); have dv : Unit := (); first | exact Goes.self (Ex2.mk ⟨dv, du, trivial, trivial, rfl⟩) | exact Goes.self (Ex2.mk ⟨x, du, hx, trivial, rfl⟩) | (rename_i xa hxa; exact Goes.self (Ex2.mk ⟨xa, x, hxa, hx, rfl⟩))))); (all_goals (fail_if_success (with_reducible first | show Goes _ _ _ _ | show (∃ _, unr _ _ _ _ _ _))))))) | ((with_reducible first | refine Cb.mk ?_ | refine Lz.mk ?_ | refine JoinT.left ?_ | refine AllT.mk (fun x hx => ?_)); cbv) | ((with_reducible refine Ob.mk (fun _ => ?_) ?_); rotate_left 1) | (with_reducible first | refine Mg.mk (Exists.intro ?_ (And.intro ?_ ?_)) | rfl | refine Fin.mk ?_ | exact True.intro | refine And.intro ?_ ?_)))
 all_goals first | (with_reducible show (∃ _, unr _ _ _ _ _ _); skip) | (with_reducible show UnrI _ _ _ _ _; skip) | (with_reducible show Goes _ _ _ _; skip) | (with_reducible show JoinT _ _ _ _ _ _ _; skip) | (first | ((try dsimp only [Shp.D, Shp.Ds, Shp.dflt] at *); simp only [vem, veq, ne_eq, cmpI, arI, dvI, shI, SV.den, obLt, elemAt, obApp, partL, obPart, lowD, highD, mxOk, convL_self, zerosB, List.length_replicate, vln] at *; (try dsimp only [Shp.D, Shp.Ds, Shp.dflt, Shp.dflts] at *); done) | ((try dsimp only [Shp.D, Shp.Ds, Shp.dflt] at *); simp only [vem, veq, ne_eq, cmpI, arI, dvI, shI, SV.den, obLt, elemAt, obApp, partL, obPart, lowD, highD, mxOk, convL_self, zerosB, List.length_replicate, vln] at *; (try dsimp only [Shp.D, Shp.Ds, Shp.dflt, Shp.dflts] at *); omega) | (try ((try dsimp only [Shp.D, Shp.Ds, Shp.dflt] at *); simp only [vem, veq, ne_eq, cmpI, arI, dvI, shI, SV.den, obLt, elemAt, obApp, partL, obPart, lowD, highD, mxOk, convL_self, zerosB, List.length_replicate, vln] at *; (try dsimp only [Shp.D, Shp.Ds, Shp.dflt, Shp.dflts] at *))))
 refine ⟨33, ?_⟩
 cbv
 (repeat' (first | ((with_reducible refine And.intro (fun h => ?_) (fun h => ?_)) <;> (first | with_reducible exact (tf h (by assumption)).elim | with_reducible exact (tf (by assumption) h).elim | cbv)) | ((with_reducible show JoinT (fun s K => vc _ (Code.region _ _ true) s K) _ _ _ _ _ _); (with_reducible apply JoinT.mg2); (focus (cbv; (repeat' (first | ((with_reducible refine And.intro (fun h => ?_) (fun h => ?_)) <;> (first | with_reducible exact (tf h (by assumption)).elim | with_reducible exact (tf (by assumption) h).elim | cbv)) | ((with_reducible first | refine Cb.mk ?_ | refine Lz.mk ?_ | refine JoinT.left ?_ | refine AllT.mk (fun x hx => ?_)); cbv) | ((with_reducible refine Ob.mk (fun _ => ?_) ?_); rotate_left 1) | (with_reducible first | refine Mg.mk (Exists.intro ?_ (And.intro ?_ ?_)) | rfl | refine Fin.mk ?_ | exact True.intro | refine And.intro ?_ ?_))); (all_goals (try (have du : Unit := (); have dv : Unit := (); first | exact Goes.self (Ex2.mk ⟨dv, du, trivial, trivial, rfl⟩) | exact Goes.self (Ex2.mk ⟨x, du, hx, trivial, rfl⟩) | (rename_i xa hxa; exact Goes.self (Ex2.mk ⟨xa, x, hxa, hx, rfl⟩))))); (all_goals (fail_if_success (with_reducible first | show Goes _ _ _ _ | show (∃ _, unr _ _ _ _ _ _))))))) | ((with_reducible first | refine Cb.mk ?_ | refine Lz.mk ?_ | refine JoinT.left ?_ | refine AllT.mk (fun x hx => ?_)); cbv) | ((with_reducible refine Ob.mk (fun _ => ?_) ?_); rotate_left 1) | (with_reducible first | refine Mg.mk (Exists.intro ?_ (And.intro ?_ ?_)) | rfl | refine Fin.mk ?_ | exact True.intro | refine And.intro ?_ ?_)))
 all_goals first | (((try dsimp only [Shp.D, Shp.Ds, Shp.dflt] at *); simp only [vem, veq, ne_eq, cmpI, arI, dvI, shI, SV.den, obLt, elemAt, obApp, partL, obPart, lowD, highD, mxOk, convL_self, zerosB, List.length_replicate, vln] at *; (try dsimp only [Shp.D, Shp.Ds, Shp.dflt, Shp.dflts] at *)); done) | (((try dsimp only [Shp.D, Shp.Ds, Shp.dflt] at *); simp only [vem, veq, ne_eq, cmpI, arI, dvI, shI, SV.den, obLt, elemAt, obApp, partL, obPart, lowD, highD, mxOk, convL_self, zerosB, List.length_replicate, vln] at *; (try dsimp only [Shp.D, Shp.Ds, Shp.dflt, Shp.dflts] at *)); omega) | (((try dsimp only [Shp.D, Shp.Ds, Shp.dflt] at *); simp only [vem, veq, ne_eq, cmpI, arI, dvI, shI, SV.den, obLt, elemAt, obApp, partL, obPart, lowD, highD, mxOk, convL_self, zerosB, List.length_replicate, vln] at *; (try dsimp only [Shp.D, Shp.Ds, Shp.dflt, Shp.dflts] at *)); exfalso; omega) | skip
 all_goals
  ((try dsimp only [Shp.D, Shp.Ds, Shp.dflt] at *); simp only [vem, veq, ne_eq, cmpI, arI, dvI, shI, SV.den, obLt, elemAt, obApp, partL, obPart, lowD, highD, mxOk, convL_self, zerosB, List.length_replicate, vln] at *; (try dsimp only [Shp.D, Shp.Ds, Shp.dflt, Shp.dflts] at *))
  simp only [wrb8, rdl_0, rdl_2, rdl_4, rdl_5, rdl_7, rdl_8, rdl_10, rdl_12, rdl_13, rdl_15, rdl_16, rdl_18, rdl_20, rdl_21, rdl_23, rdl_24, rdl_26, rdl_28, rdl_29, rdl_31, rdl_32, rdl_34, rdl_36, rdl_37, rdl_39, rdl_40, rdl_42, rdl_44, rdl_45, rdl_47, rdl_48, rdl_50, rdr_1, rdr_3, rdr_4, rdr_6]
  simp only [Int.reduceToNat, Int.zero_add]
  simp (disch := omega) only [wru]
  first
   | (refine ⟨?_, ?_, ?_, ?_, ?_⟩ <;> (dsimp only; omega))
   | (rw [hv]; unfold valE; dsimp only; omega)
   | (refine ⟨⟨?_, ?_, ?_, ?_, ?_⟩, ?_⟩ <;> first | (dsimp only; omega) | (rw [hv]; unfold valE; dsimp only; omega))
end Go.Proofs.Ytihnagafldpbnaa.V
