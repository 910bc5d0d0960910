/- Curve: the bytes of five limbs (pure; printed by genle.py). -/
import Derived.Test.YtihnagafldpbnaaVUf
set_option linter.unusedVariables false
set_option linter.unusedSimpArgs false
namespace Go.Proofs.Ytihnagafldpbnaa.V
open Go.RowKit
set_option maxHeartbeats 80000000
set_option maxRecDepth 100000
def leB : Nat → Int → List UInt8
 | 0, _ => []
 | n + 1, v => toB (v % 256) :: leB n (v / 256)
theorem le_0 {c0 c1 c2 c3 c4 : Int} (n0 : 0 ≤ c0 ∧ c0 < 2251799813685248) (n1 : 0 ≤ c1 ∧ c1 < 2251799813685248) (n2 : 0 ≤ c2 ∧ c2 < 2251799813685248) (n3 : 0 ≤ c3 ∧ c3 < 2251799813685248) (n4 : 0 ≤ c4 ∧ c4 < 2251799813685248) : (c0 + 2251799813685248 * c1 + 5070602400912917605986812821504 * c2 + 11417981541647679048466287755595961091061972992 * c3 + 25711008708143844408671393477458601640355247900524685364822016 * c4) / 1 % 256 = (c0 / 1) % 256 := by omega
theorem le_1 {c0 c1 c2 c3 c4 : Int} (n0 : 0 ≤ c0 ∧ c0 < 2251799813685248) (n1 : 0 ≤ c1 ∧ c1 < 2251799813685248) (n2 : 0 ≤ c2 ∧ c2 < 2251799813685248) (n3 : 0 ≤ c3 ∧ c3 < 2251799813685248) (n4 : 0 ≤ c4 ∧ c4 < 2251799813685248) : (c0 + 2251799813685248 * c1 + 5070602400912917605986812821504 * c2 + 11417981541647679048466287755595961091061972992 * c3 + 25711008708143844408671393477458601640355247900524685364822016 * c4) / 256 % 256 = (c0 / 256) % 256 := by omega
theorem le_2 {c0 c1 c2 c3 c4 : Int} (n0 : 0 ≤ c0 ∧ c0 < 2251799813685248) (n1 : 0 ≤ c1 ∧ c1 < 2251799813685248) (n2 : 0 ≤ c2 ∧ c2 < 2251799813685248) (n3 : 0 ≤ c3 ∧ c3 < 2251799813685248) (n4 : 0 ≤ c4 ∧ c4 < 2251799813685248) : (c0 + 2251799813685248 * c1 + 5070602400912917605986812821504 * c2 + 11417981541647679048466287755595961091061972992 * c3 + 25711008708143844408671393477458601640355247900524685364822016 * c4) / 65536 % 256 = (c0 / 65536) % 256 := by omega
theorem le_3 {c0 c1 c2 c3 c4 : Int} (n0 : 0 ≤ c0 ∧ c0 < 2251799813685248) (n1 : 0 ≤ c1 ∧ c1 < 2251799813685248) (n2 : 0 ≤ c2 ∧ c2 < 2251799813685248) (n3 : 0 ≤ c3 ∧ c3 < 2251799813685248) (n4 : 0 ≤ c4 ∧ c4 < 2251799813685248) : (c0 + 2251799813685248 * c1 + 5070602400912917605986812821504 * c2 + 11417981541647679048466287755595961091061972992 * c3 + 25711008708143844408671393477458601640355247900524685364822016 * c4) / 16777216 % 256 = (c0 / 16777216) % 256 := by omega
theorem le_4 {c0 c1 c2 c3 c4 : Int} (n0 : 0 ≤ c0 ∧ c0 < 2251799813685248) (n1 : 0 ≤ c1 ∧ c1 < 2251799813685248) (n2 : 0 ≤ c2 ∧ c2 < 2251799813685248) (n3 : 0 ≤ c3 ∧ c3 < 2251799813685248) (n4 : 0 ≤ c4 ∧ c4 < 2251799813685248) : (c0 + 2251799813685248 * c1 + 5070602400912917605986812821504 * c2 + 11417981541647679048466287755595961091061972992 * c3 + 25711008708143844408671393477458601640355247900524685364822016 * c4) / 4294967296 % 256 = (c0 / 4294967296) % 256 := by omega
theorem le_5 {c0 c1 c2 c3 c4 : Int} (n0 : 0 ≤ c0 ∧ c0 < 2251799813685248) (n1 : 0 ≤ c1 ∧ c1 < 2251799813685248) (n2 : 0 ≤ c2 ∧ c2 < 2251799813685248) (n3 : 0 ≤ c3 ∧ c3 < 2251799813685248) (n4 : 0 ≤ c4 ∧ c4 < 2251799813685248) : (c0 + 2251799813685248 * c1 + 5070602400912917605986812821504 * c2 + 11417981541647679048466287755595961091061972992 * c3 + 25711008708143844408671393477458601640355247900524685364822016 * c4) / 1099511627776 % 256 = (c0 / 1099511627776) % 256 := by omega
theorem le_6 {c0 c1 c2 c3 c4 : Int} (n0 : 0 ≤ c0 ∧ c0 < 2251799813685248) (n1 : 0 ≤ c1 ∧ c1 < 2251799813685248) (n2 : 0 ≤ c2 ∧ c2 < 2251799813685248) (n3 : 0 ≤ c3 ∧ c3 < 2251799813685248) (n4 : 0 ≤ c4 ∧ c4 < 2251799813685248) : (c0 + 2251799813685248 * c1 + 5070602400912917605986812821504 * c2 + 11417981541647679048466287755595961091061972992 * c3 + 25711008708143844408671393477458601640355247900524685364822016 * c4) / 281474976710656 % 256 = (c0 / 281474976710656 + c1 * 8) % 256 := by omega
theorem le_7 {c0 c1 c2 c3 c4 : Int} (n0 : 0 ≤ c0 ∧ c0 < 2251799813685248) (n1 : 0 ≤ c1 ∧ c1 < 2251799813685248) (n2 : 0 ≤ c2 ∧ c2 < 2251799813685248) (n3 : 0 ≤ c3 ∧ c3 < 2251799813685248) (n4 : 0 ≤ c4 ∧ c4 < 2251799813685248) : (c0 + 2251799813685248 * c1 + 5070602400912917605986812821504 * c2 + 11417981541647679048466287755595961091061972992 * c3 + 25711008708143844408671393477458601640355247900524685364822016 * c4) / 72057594037927936 % 256 = (c1 / 32) % 256 := by omega
theorem le_8 {c0 c1 c2 c3 c4 : Int} (n0 : 0 ≤ c0 ∧ c0 < 2251799813685248) (n1 : 0 ≤ c1 ∧ c1 < 2251799813685248) (n2 : 0 ≤ c2 ∧ c2 < 2251799813685248) (n3 : 0 ≤ c3 ∧ c3 < 2251799813685248) (n4 : 0 ≤ c4 ∧ c4 < 2251799813685248) : (c0 + 2251799813685248 * c1 + 5070602400912917605986812821504 * c2 + 11417981541647679048466287755595961091061972992 * c3 + 25711008708143844408671393477458601640355247900524685364822016 * c4) / 18446744073709551616 % 256 = (c1 / 8192) % 256 := by omega
theorem le_9 {c0 c1 c2 c3 c4 : Int} (n0 : 0 ≤ c0 ∧ c0 < 2251799813685248) (n1 : 0 ≤ c1 ∧ c1 < 2251799813685248) (n2 : 0 ≤ c2 ∧ c2 < 2251799813685248) (n3 : 0 ≤ c3 ∧ c3 < 2251799813685248) (n4 : 0 ≤ c4 ∧ c4 < 2251799813685248) : (c0 + 2251799813685248 * c1 + 5070602400912917605986812821504 * c2 + 11417981541647679048466287755595961091061972992 * c3 + 25711008708143844408671393477458601640355247900524685364822016 * c4) / 4722366482869645213696 % 256 = (c1 / 2097152) % 256 := by omega
theorem le_10 {c0 c1 c2 c3 c4 : Int} (n0 : 0 ≤ c0 ∧ c0 < 2251799813685248) (n1 : 0 ≤ c1 ∧ c1 < 2251799813685248) (n2 : 0 ≤ c2 ∧ c2 < 2251799813685248) (n3 : 0 ≤ c3 ∧ c3 < 2251799813685248) (n4 : 0 ≤ c4 ∧ c4 < 2251799813685248) : (c0 + 2251799813685248 * c1 + 5070602400912917605986812821504 * c2 + 11417981541647679048466287755595961091061972992 * c3 + 25711008708143844408671393477458601640355247900524685364822016 * c4) / 1208925819614629174706176 % 256 = (c1 / 536870912) % 256 := by omega
theorem le_11 {c0 c1 c2 c3 c4 : Int} (n0 : 0 ≤ c0 ∧ c0 < 2251799813685248) (n1 : 0 ≤ c1 ∧ c1 < 2251799813685248) (n2 : 0 ≤ c2 ∧ c2 < 2251799813685248) (n3 : 0 ≤ c3 ∧ c3 < 2251799813685248) (n4 : 0 ≤ c4 ∧ c4 < 2251799813685248) : (c0 + 2251799813685248 * c1 + 5070602400912917605986812821504 * c2 + 11417981541647679048466287755595961091061972992 * c3 + 25711008708143844408671393477458601640355247900524685364822016 * c4) / 309485009821345068724781056 % 256 = (c1 / 137438953472) % 256 := by omega
theorem le_12 {c0 c1 c2 c3 c4 : Int} (n0 : 0 ≤ c0 ∧ c0 < 2251799813685248) (n1 : 0 ≤ c1 ∧ c1 < 2251799813685248) (n2 : 0 ≤ c2 ∧ c2 < 2251799813685248) (n3 : 0 ≤ c3 ∧ c3 < 2251799813685248) (n4 : 0 ≤ c4 ∧ c4 < 2251799813685248) : (c0 + 2251799813685248 * c1 + 5070602400912917605986812821504 * c2 + 11417981541647679048466287755595961091061972992 * c3 + 25711008708143844408671393477458601640355247900524685364822016 * c4) / 79228162514264337593543950336 % 256 = (c1 / 35184372088832 + c2 * 64) % 256 := by omega
theorem le_13 {c0 c1 c2 c3 c4 : Int} (n0 : 0 ≤ c0 ∧ c0 < 2251799813685248) (n1 : 0 ≤ c1 ∧ c1 < 2251799813685248) (n2 : 0 ≤ c2 ∧ c2 < 2251799813685248) (n3 : 0 ≤ c3 ∧ c3 < 2251799813685248) (n4 : 0 ≤ c4 ∧ c4 < 2251799813685248) : (c0 + 2251799813685248 * c1 + 5070602400912917605986812821504 * c2 + 11417981541647679048466287755595961091061972992 * c3 + 25711008708143844408671393477458601640355247900524685364822016 * c4) / 20282409603651670423947251286016 % 256 = (c2 / 4) % 256 := by omega
theorem le_14 {c0 c1 c2 c3 c4 : Int} (n0 : 0 ≤ c0 ∧ c0 < 2251799813685248) (n1 : 0 ≤ c1 ∧ c1 < 2251799813685248) (n2 : 0 ≤ c2 ∧ c2 < 2251799813685248) (n3 : 0 ≤ c3 ∧ c3 < 2251799813685248) (n4 : 0 ≤ c4 ∧ c4 < 2251799813685248) : (c0 + 2251799813685248 * c1 + 5070602400912917605986812821504 * c2 + 11417981541647679048466287755595961091061972992 * c3 + 25711008708143844408671393477458601640355247900524685364822016 * c4) / 5192296858534827628530496329220096 % 256 = (c2 / 1024) % 256 := by omega
theorem le_15 {c0 c1 c2 c3 c4 : Int} (n0 : 0 ≤ c0 ∧ c0 < 2251799813685248) (n1 : 0 ≤ c1 ∧ c1 < 2251799813685248) (n2 : 0 ≤ c2 ∧ c2 < 2251799813685248) (n3 : 0 ≤ c3 ∧ c3 < 2251799813685248) (n4 : 0 ≤ c4 ∧ c4 < 2251799813685248) : (c0 + 2251799813685248 * c1 + 5070602400912917605986812821504 * c2 + 11417981541647679048466287755595961091061972992 * c3 + 25711008708143844408671393477458601640355247900524685364822016 * c4) / 1329227995784915872903807060280344576 % 256 = (c2 / 262144) % 256 := by omega
theorem le_16 {c0 c1 c2 c3 c4 : Int} (n0 : 0 ≤ c0 ∧ c0 < 2251799813685248) (n1 : 0 ≤ c1 ∧ c1 < 2251799813685248) (n2 : 0 ≤ c2 ∧ c2 < 2251799813685248) (n3 : 0 ≤ c3 ∧ c3 < 2251799813685248) (n4 : 0 ≤ c4 ∧ c4 < 2251799813685248) : (c0 + 2251799813685248 * c1 + 5070602400912917605986812821504 * c2 + 11417981541647679048466287755595961091061972992 * c3 + 25711008708143844408671393477458601640355247900524685364822016 * c4) / 340282366920938463463374607431768211456 % 256 = (c2 / 67108864) % 256 := by omega
theorem le_17 {c0 c1 c2 c3 c4 : Int} (n0 : 0 ≤ c0 ∧ c0 < 2251799813685248) (n1 : 0 ≤ c1 ∧ c1 < 2251799813685248) (n2 : 0 ≤ c2 ∧ c2 < 2251799813685248) (n3 : 0 ≤ c3 ∧ c3 < 2251799813685248) (n4 : 0 ≤ c4 ∧ c4 < 2251799813685248) : (c0 + 2251799813685248 * c1 + 5070602400912917605986812821504 * c2 + 11417981541647679048466287755595961091061972992 * c3 + 25711008708143844408671393477458601640355247900524685364822016 * c4) / 87112285931760246646623899502532662132736 % 256 = (c2 / 17179869184) % 256 := by omega
theorem le_18 {c0 c1 c2 c3 c4 : Int} (n0 : 0 ≤ c0 ∧ c0 < 2251799813685248) (n1 : 0 ≤ c1 ∧ c1 < 2251799813685248) (n2 : 0 ≤ c2 ∧ c2 < 2251799813685248) (n3 : 0 ≤ c3 ∧ c3 < 2251799813685248) (n4 : 0 ≤ c4 ∧ c4 < 2251799813685248) : (c0 + 2251799813685248 * c1 + 5070602400912917605986812821504 * c2 + 11417981541647679048466287755595961091061972992 * c3 + 25711008708143844408671393477458601640355247900524685364822016 * c4) / 22300745198530623141535718272648361505980416 % 256 = (c2 / 4398046511104) % 256 := by omega
theorem le_19 {c0 c1 c2 c3 c4 : Int} (n0 : 0 ≤ c0 ∧ c0 < 2251799813685248) (n1 : 0 ≤ c1 ∧ c1 < 2251799813685248) (n2 : 0 ≤ c2 ∧ c2 < 2251799813685248) (n3 : 0 ≤ c3 ∧ c3 < 2251799813685248) (n4 : 0 ≤ c4 ∧ c4 < 2251799813685248) : (c0 + 2251799813685248 * c1 + 5070602400912917605986812821504 * c2 + 11417981541647679048466287755595961091061972992 * c3 + 25711008708143844408671393477458601640355247900524685364822016 * c4) / 5708990770823839524233143877797980545530986496 % 256 = (c2 / 1125899906842624 + c3 * 2) % 256 := by omega
theorem le_20 {c0 c1 c2 c3 c4 : Int} (n0 : 0 ≤ c0 ∧ c0 < 2251799813685248) (n1 : 0 ≤ c1 ∧ c1 < 2251799813685248) (n2 : 0 ≤ c2 ∧ c2 < 2251799813685248) (n3 : 0 ≤ c3 ∧ c3 < 2251799813685248) (n4 : 0 ≤ c4 ∧ c4 < 2251799813685248) : (c0 + 2251799813685248 * c1 + 5070602400912917605986812821504 * c2 + 11417981541647679048466287755595961091061972992 * c3 + 25711008708143844408671393477458601640355247900524685364822016 * c4) / 1461501637330902918203684832716283019655932542976 % 256 = (c3 / 128) % 256 := by omega
theorem le_21 {c0 c1 c2 c3 c4 : Int} (n0 : 0 ≤ c0 ∧ c0 < 2251799813685248) (n1 : 0 ≤ c1 ∧ c1 < 2251799813685248) (n2 : 0 ≤ c2 ∧ c2 < 2251799813685248) (n3 : 0 ≤ c3 ∧ c3 < 2251799813685248) (n4 : 0 ≤ c4 ∧ c4 < 2251799813685248) : (c0 + 2251799813685248 * c1 + 5070602400912917605986812821504 * c2 + 11417981541647679048466287755595961091061972992 * c3 + 25711008708143844408671393477458601640355247900524685364822016 * c4) / 374144419156711147060143317175368453031918731001856 % 256 = (c3 / 32768) % 256 := by omega
theorem le_22 {c0 c1 c2 c3 c4 : Int} (n0 : 0 ≤ c0 ∧ c0 < 2251799813685248) (n1 : 0 ≤ c1 ∧ c1 < 2251799813685248) (n2 : 0 ≤ c2 ∧ c2 < 2251799813685248) (n3 : 0 ≤ c3 ∧ c3 < 2251799813685248) (n4 : 0 ≤ c4 ∧ c4 < 2251799813685248) : (c0 + 2251799813685248 * c1 + 5070602400912917605986812821504 * c2 + 11417981541647679048466287755595961091061972992 * c3 + 25711008708143844408671393477458601640355247900524685364822016 * c4) / 95780971304118053647396689196894323976171195136475136 % 256 = (c3 / 8388608) % 256 := by omega
theorem le_23 {c0 c1 c2 c3 c4 : Int} (n0 : 0 ≤ c0 ∧ c0 < 2251799813685248) (n1 : 0 ≤ c1 ∧ c1 < 2251799813685248) (n2 : 0 ≤ c2 ∧ c2 < 2251799813685248) (n3 : 0 ≤ c3 ∧ c3 < 2251799813685248) (n4 : 0 ≤ c4 ∧ c4 < 2251799813685248) : (c0 + 2251799813685248 * c1 + 5070602400912917605986812821504 * c2 + 11417981541647679048466287755595961091061972992 * c3 + 25711008708143844408671393477458601640355247900524685364822016 * c4) / 24519928653854221733733552434404946937899825954937634816 % 256 = (c3 / 2147483648) % 256 := by omega
theorem le_24 {c0 c1 c2 c3 c4 : Int} (n0 : 0 ≤ c0 ∧ c0 < 2251799813685248) (n1 : 0 ≤ c1 ∧ c1 < 2251799813685248) (n2 : 0 ≤ c2 ∧ c2 < 2251799813685248) (n3 : 0 ≤ c3 ∧ c3 < 2251799813685248) (n4 : 0 ≤ c4 ∧ c4 < 2251799813685248) : (c0 + 2251799813685248 * c1 + 5070602400912917605986812821504 * c2 + 11417981541647679048466287755595961091061972992 * c3 + 25711008708143844408671393477458601640355247900524685364822016 * c4) / 6277101735386680763835789423207666416102355444464034512896 % 256 = (c3 / 549755813888) % 256 := by omega
theorem le_25 {c0 c1 c2 c3 c4 : Int} (n0 : 0 ≤ c0 ∧ c0 < 2251799813685248) (n1 : 0 ≤ c1 ∧ c1 < 2251799813685248) (n2 : 0 ≤ c2 ∧ c2 < 2251799813685248) (n3 : 0 ≤ c3 ∧ c3 < 2251799813685248) (n4 : 0 ≤ c4 ∧ c4 < 2251799813685248) : (c0 + 2251799813685248 * c1 + 5070602400912917605986812821504 * c2 + 11417981541647679048466287755595961091061972992 * c3 + 25711008708143844408671393477458601640355247900524685364822016 * c4) / 1606938044258990275541962092341162602522202993782792835301376 % 256 = (c3 / 140737488355328 + c4 * 16) % 256 := by omega
theorem le_26 {c0 c1 c2 c3 c4 : Int} (n0 : 0 ≤ c0 ∧ c0 < 2251799813685248) (n1 : 0 ≤ c1 ∧ c1 < 2251799813685248) (n2 : 0 ≤ c2 ∧ c2 < 2251799813685248) (n3 : 0 ≤ c3 ∧ c3 < 2251799813685248) (n4 : 0 ≤ c4 ∧ c4 < 2251799813685248) : (c0 + 2251799813685248 * c1 + 5070602400912917605986812821504 * c2 + 11417981541647679048466287755595961091061972992 * c3 + 25711008708143844408671393477458601640355247900524685364822016 * c4) / 411376139330301510538742295639337626245683966408394965837152256 % 256 = (c4 / 16) % 256 := by omega
theorem le_27 {c0 c1 c2 c3 c4 : Int} (n0 : 0 ≤ c0 ∧ c0 < 2251799813685248) (n1 : 0 ≤ c1 ∧ c1 < 2251799813685248) (n2 : 0 ≤ c2 ∧ c2 < 2251799813685248) (n3 : 0 ≤ c3 ∧ c3 < 2251799813685248) (n4 : 0 ≤ c4 ∧ c4 < 2251799813685248) : (c0 + 2251799813685248 * c1 + 5070602400912917605986812821504 * c2 + 11417981541647679048466287755595961091061972992 * c3 + 25711008708143844408671393477458601640355247900524685364822016 * c4) / 105312291668557186697918027683670432318895095400549111254310977536 % 256 = (c4 / 4096) % 256 := by omega
theorem le_28 {c0 c1 c2 c3 c4 : Int} (n0 : 0 ≤ c0 ∧ c0 < 2251799813685248) (n1 : 0 ≤ c1 ∧ c1 < 2251799813685248) (n2 : 0 ≤ c2 ∧ c2 < 2251799813685248) (n3 : 0 ≤ c3 ∧ c3 < 2251799813685248) (n4 : 0 ≤ c4 ∧ c4 < 2251799813685248) : (c0 + 2251799813685248 * c1 + 5070602400912917605986812821504 * c2 + 11417981541647679048466287755595961091061972992 * c3 + 25711008708143844408671393477458601640355247900524685364822016 * c4) / 26959946667150639794667015087019630673637144422540572481103610249216 % 256 = (c4 / 1048576) % 256 := by omega
theorem le_29 {c0 c1 c2 c3 c4 : Int} (n0 : 0 ≤ c0 ∧ c0 < 2251799813685248) (n1 : 0 ≤ c1 ∧ c1 < 2251799813685248) (n2 : 0 ≤ c2 ∧ c2 < 2251799813685248) (n3 : 0 ≤ c3 ∧ c3 < 2251799813685248) (n4 : 0 ≤ c4 ∧ c4 < 2251799813685248) : (c0 + 2251799813685248 * c1 + 5070602400912917605986812821504 * c2 + 11417981541647679048466287755595961091061972992 * c3 + 25711008708143844408671393477458601640355247900524685364822016 * c4) / 6901746346790563787434755862277025452451108972170386555162524223799296 % 256 = (c4 / 268435456) % 256 := by omega
theorem le_30 {c0 c1 c2 c3 c4 : Int} (n0 : 0 ≤ c0 ∧ c0 < 2251799813685248) (n1 : 0 ≤ c1 ∧ c1 < 2251799813685248) (n2 : 0 ≤ c2 ∧ c2 < 2251799813685248) (n3 : 0 ≤ c3 ∧ c3 < 2251799813685248) (n4 : 0 ≤ c4 ∧ c4 < 2251799813685248) : (c0 + 2251799813685248 * c1 + 5070602400912917605986812821504 * c2 + 11417981541647679048466287755595961091061972992 * c3 + 25711008708143844408671393477458601640355247900524685364822016 * c4) / 1766847064778384329583297500742918515827483896875618958121606201292619776 % 256 = (c4 / 68719476736) % 256 := by omega
theorem le_31 {c0 c1 c2 c3 c4 : Int} (n0 : 0 ≤ c0 ∧ c0 < 2251799813685248) (n1 : 0 ≤ c1 ∧ c1 < 2251799813685248) (n2 : 0 ≤ c2 ∧ c2 < 2251799813685248) (n3 : 0 ≤ c3 ∧ c3 < 2251799813685248) (n4 : 0 ≤ c4 ∧ c4 < 2251799813685248) : (c0 + 2251799813685248 * c1 + 5070602400912917605986812821504 * c2 + 11417981541647679048466287755595961091061972992 * c3 + 25711008708143844408671393477458601640355247900524685364822016 * c4) / 452312848583266388373324160190187140051835877600158453279131187530910662656 % 256 = (c4 / 17592186044416) % 256 := by omega
theorem leB_limbs {c0 c1 c2 c3 c4 : Int} (n0 : 0 ≤ c0 ∧ c0 < 2251799813685248) (n1 : 0 ≤ c1 ∧ c1 < 2251799813685248) (n2 : 0 ≤ c2 ∧ c2 < 2251799813685248) (n3 : 0 ≤ c3 ∧ c3 < 2251799813685248) (n4 : 0 ≤ c4 ∧ c4 < 2251799813685248) : leB 32 (c0 + 2251799813685248 * c1 + 5070602400912917605986812821504 * c2 + 11417981541647679048466287755595961091061972992 * c3 + 25711008708143844408671393477458601640355247900524685364822016 * c4) = [toB ((c0 / 1) % 256), toB ((c0 / 256) % 256), toB ((c0 / 65536) % 256), toB ((c0 / 16777216) % 256), toB ((c0 / 4294967296) % 256), toB ((c0 / 1099511627776) % 256), toB ((c0 / 281474976710656 + c1 * 8) % 256), toB ((c1 / 32) % 256), toB ((c1 / 8192) % 256), toB ((c1 / 2097152) % 256), toB ((c1 / 536870912) % 256), toB ((c1 / 137438953472) % 256), toB ((c1 / 35184372088832 + c2 * 64) % 256), toB ((c2 / 4) % 256), toB ((c2 / 1024) % 256), toB ((c2 / 262144) % 256), toB ((c2 / 67108864) % 256), toB ((c2 / 17179869184) % 256), toB ((c2 / 4398046511104) % 256), toB ((c2 / 1125899906842624 + c3 * 2) % 256), toB ((c3 / 128) % 256), toB ((c3 / 32768) % 256), toB ((c3 / 8388608) % 256), toB ((c3 / 2147483648) % 256), toB ((c3 / 549755813888) % 256), toB ((c3 / 140737488355328 + c4 * 16) % 256), toB ((c4 / 16) % 256), toB ((c4 / 4096) % 256), toB ((c4 / 1048576) % 256), toB ((c4 / 268435456) % 256), toB ((c4 / 68719476736) % 256), toB ((c4 / 17592186044416) % 256)] := by
 have e0 := le_0 n0 n1 n2 n3 n4
 rw [Int.ediv_one] at e0
 have e1 := le_1 n0 n1 n2 n3 n4
 have e2 := le_2 n0 n1 n2 n3 n4
 have e3 := le_3 n0 n1 n2 n3 n4
 have e4 := le_4 n0 n1 n2 n3 n4
 have e5 := le_5 n0 n1 n2 n3 n4
 have e6 := le_6 n0 n1 n2 n3 n4
 have e7 := le_7 n0 n1 n2 n3 n4
 have e8 := le_8 n0 n1 n2 n3 n4
 have e9 := le_9 n0 n1 n2 n3 n4
 have e10 := le_10 n0 n1 n2 n3 n4
 have e11 := le_11 n0 n1 n2 n3 n4
 have e12 := le_12 n0 n1 n2 n3 n4
 have e13 := le_13 n0 n1 n2 n3 n4
 have e14 := le_14 n0 n1 n2 n3 n4
 have e15 := le_15 n0 n1 n2 n3 n4
 have e16 := le_16 n0 n1 n2 n3 n4
 have e17 := le_17 n0 n1 n2 n3 n4
 have e18 := le_18 n0 n1 n2 n3 n4
 have e19 := le_19 n0 n1 n2 n3 n4
 have e20 := le_20 n0 n1 n2 n3 n4
 have e21 := le_21 n0 n1 n2 n3 n4
 have e22 := le_22 n0 n1 n2 n3 n4
 have e23 := le_23 n0 n1 n2 n3 n4
 have e24 := le_24 n0 n1 n2 n3 n4
 have e25 := le_25 n0 n1 n2 n3 n4
 have e26 := le_26 n0 n1 n2 n3 n4
 have e27 := le_27 n0 n1 n2 n3 n4
 have e28 := le_28 n0 n1 n2 n3 n4
 have e29 := le_29 n0 n1 n2 n3 n4
 have e30 := le_30 n0 n1 n2 n3 n4
 have e31 := le_31 n0 n1 n2 n3 n4
 generalize c0 + 2251799813685248 * c1 + 5070602400912917605986812821504 * c2 + 11417981541647679048466287755595961091061972992 * c3 + 25711008708143844408671393477458601640355247900524685364822016 * c4 = v at *
 rw [← e0, ← e1, ← e2, ← e3, ← e4, ← e5, ← e6, ← e7, ← e8, ← e9, ← e10, ← e11, ← e12, ← e13, ← e14, ← e15, ← e16, ← e17, ← e18, ← e19, ← e20, ← e21, ← e22, ← e23, ← e24, ← e25, ← e26, ← e27, ← e28, ← e29, ← e30, ← e31]
 have step : ∀ n k : Nat, leB (n + 1) (v / 256 ^ k) = toB (v / 256 ^ k % 256) :: leB n (v / 256 ^ (k + 1)) := fun n k => by
  rw [leB, Int.pow_succ, Int.ediv_ediv_of_nonneg (Int.pow_nonneg (by decide))]
 have s0 : leB 32 v = leB 32 (v / 256 ^ 0) := by simp only [Int.pow_zero, Int.ediv_one]
 rw [s0]
 rw [step 31 0, step 30 1, step 29 2, step 28 3, step 27 4, step 26 5, step 25 6, step 24 7, step 23 8, step 22 9, step 21 10, step 20 11, step 19 12, step 18 13, step 17 14, step 16 15, step 15 16, step 14 17, step 13 18, step 12 19, step 11 20, step 10 21, step 9 22, step 8 23, step 7 24, step 6 25, step 5 26, step 4 27, step 3 28, step 2 29, step 1 30, step 0 31]
 simp only [leB, Int.reducePow, Int.ediv_one, Int.pow_zero]
theorem shr_0 (a : Int) : a.fdiv (2 ^ min (Int.toNat 0) IntKind.u64.bits) = a / 1 := by
 show a.fdiv (2 ^ 0) = _
 exact Int.fdiv_eq_ediv_of_nonneg a (by decide)
theorem shr_2 (a : Int) : a.fdiv (2 ^ min (Int.toNat 2) IntKind.u64.bits) = a / 4 := by
 show a.fdiv (2 ^ 2) = _
 exact Int.fdiv_eq_ediv_of_nonneg a (by decide)
theorem shr_4 (a : Int) : a.fdiv (2 ^ min (Int.toNat 4) IntKind.u64.bits) = a / 16 := by
 show a.fdiv (2 ^ 4) = _
 exact Int.fdiv_eq_ediv_of_nonneg a (by decide)
theorem shr_5 (a : Int) : a.fdiv (2 ^ min (Int.toNat 5) IntKind.u64.bits) = a / 32 := by
 show a.fdiv (2 ^ 5) = _
 exact Int.fdiv_eq_ediv_of_nonneg a (by decide)
theorem shr_7 (a : Int) : a.fdiv (2 ^ min (Int.toNat 7) IntKind.u64.bits) = a / 128 := by
 show a.fdiv (2 ^ 7) = _
 exact Int.fdiv_eq_ediv_of_nonneg a (by decide)
theorem shr_8 (a : Int) : a.fdiv (2 ^ min (Int.toNat 8) IntKind.u64.bits) = a / 256 := by
 show a.fdiv (2 ^ 8) = _
 exact Int.fdiv_eq_ediv_of_nonneg a (by decide)
theorem shr_10 (a : Int) : a.fdiv (2 ^ min (Int.toNat 10) IntKind.u64.bits) = a / 1024 := by
 show a.fdiv (2 ^ 10) = _
 exact Int.fdiv_eq_ediv_of_nonneg a (by decide)
theorem shr_12 (a : Int) : a.fdiv (2 ^ min (Int.toNat 12) IntKind.u64.bits) = a / 4096 := by
 show a.fdiv (2 ^ 12) = _
 exact Int.fdiv_eq_ediv_of_nonneg a (by decide)
theorem shr_13 (a : Int) : a.fdiv (2 ^ min (Int.toNat 13) IntKind.u64.bits) = a / 8192 := by
 show a.fdiv (2 ^ 13) = _
 exact Int.fdiv_eq_ediv_of_nonneg a (by decide)
theorem shr_15 (a : Int) : a.fdiv (2 ^ min (Int.toNat 15) IntKind.u64.bits) = a / 32768 := by
 show a.fdiv (2 ^ 15) = _
 exact Int.fdiv_eq_ediv_of_nonneg a (by decide)
theorem shr_16 (a : Int) : a.fdiv (2 ^ min (Int.toNat 16) IntKind.u64.bits) = a / 65536 := by
 show a.fdiv (2 ^ 16) = _
 exact Int.fdiv_eq_ediv_of_nonneg a (by decide)
theorem shr_18 (a : Int) : a.fdiv (2 ^ min (Int.toNat 18) IntKind.u64.bits) = a / 262144 := by
 show a.fdiv (2 ^ 18) = _
 exact Int.fdiv_eq_ediv_of_nonneg a (by decide)
theorem shr_20 (a : Int) : a.fdiv (2 ^ min (Int.toNat 20) IntKind.u64.bits) = a / 1048576 := by
 show a.fdiv (2 ^ 20) = _
 exact Int.fdiv_eq_ediv_of_nonneg a (by decide)
theorem shr_21 (a : Int) : a.fdiv (2 ^ min (Int.toNat 21) IntKind.u64.bits) = a / 2097152 := by
 show a.fdiv (2 ^ 21) = _
 exact Int.fdiv_eq_ediv_of_nonneg a (by decide)
theorem shr_23 (a : Int) : a.fdiv (2 ^ min (Int.toNat 23) IntKind.u64.bits) = a / 8388608 := by
 show a.fdiv (2 ^ 23) = _
 exact Int.fdiv_eq_ediv_of_nonneg a (by decide)
theorem shr_24 (a : Int) : a.fdiv (2 ^ min (Int.toNat 24) IntKind.u64.bits) = a / 16777216 := by
 show a.fdiv (2 ^ 24) = _
 exact Int.fdiv_eq_ediv_of_nonneg a (by decide)
theorem shr_26 (a : Int) : a.fdiv (2 ^ min (Int.toNat 26) IntKind.u64.bits) = a / 67108864 := by
 show a.fdiv (2 ^ 26) = _
 exact Int.fdiv_eq_ediv_of_nonneg a (by decide)
theorem shr_28 (a : Int) : a.fdiv (2 ^ min (Int.toNat 28) IntKind.u64.bits) = a / 268435456 := by
 show a.fdiv (2 ^ 28) = _
 exact Int.fdiv_eq_ediv_of_nonneg a (by decide)
theorem shr_29 (a : Int) : a.fdiv (2 ^ min (Int.toNat 29) IntKind.u64.bits) = a / 536870912 := by
 show a.fdiv (2 ^ 29) = _
 exact Int.fdiv_eq_ediv_of_nonneg a (by decide)
theorem shr_31 (a : Int) : a.fdiv (2 ^ min (Int.toNat 31) IntKind.u64.bits) = a / 2147483648 := by
 show a.fdiv (2 ^ 31) = _
 exact Int.fdiv_eq_ediv_of_nonneg a (by decide)
theorem shr_32 (a : Int) : a.fdiv (2 ^ min (Int.toNat 32) IntKind.u64.bits) = a / 4294967296 := by
 show a.fdiv (2 ^ 32) = _
 exact Int.fdiv_eq_ediv_of_nonneg a (by decide)
theorem shr_34 (a : Int) : a.fdiv (2 ^ min (Int.toNat 34) IntKind.u64.bits) = a / 17179869184 := by
 show a.fdiv (2 ^ 34) = _
 exact Int.fdiv_eq_ediv_of_nonneg a (by decide)
theorem shr_36 (a : Int) : a.fdiv (2 ^ min (Int.toNat 36) IntKind.u64.bits) = a / 68719476736 := by
 show a.fdiv (2 ^ 36) = _
 exact Int.fdiv_eq_ediv_of_nonneg a (by decide)
theorem shr_37 (a : Int) : a.fdiv (2 ^ min (Int.toNat 37) IntKind.u64.bits) = a / 137438953472 := by
 show a.fdiv (2 ^ 37) = _
 exact Int.fdiv_eq_ediv_of_nonneg a (by decide)
theorem shr_39 (a : Int) : a.fdiv (2 ^ min (Int.toNat 39) IntKind.u64.bits) = a / 549755813888 := by
 show a.fdiv (2 ^ 39) = _
 exact Int.fdiv_eq_ediv_of_nonneg a (by decide)
theorem shr_40 (a : Int) : a.fdiv (2 ^ min (Int.toNat 40) IntKind.u64.bits) = a / 1099511627776 := by
 show a.fdiv (2 ^ 40) = _
 exact Int.fdiv_eq_ediv_of_nonneg a (by decide)
theorem shr_42 (a : Int) : a.fdiv (2 ^ min (Int.toNat 42) IntKind.u64.bits) = a / 4398046511104 := by
 show a.fdiv (2 ^ 42) = _
 exact Int.fdiv_eq_ediv_of_nonneg a (by decide)
theorem shr_44 (a : Int) : a.fdiv (2 ^ min (Int.toNat 44) IntKind.u64.bits) = a / 17592186044416 := by
 show a.fdiv (2 ^ 44) = _
 exact Int.fdiv_eq_ediv_of_nonneg a (by decide)
theorem shr_45 (a : Int) : a.fdiv (2 ^ min (Int.toNat 45) IntKind.u64.bits) = a / 35184372088832 := by
 show a.fdiv (2 ^ 45) = _
 exact Int.fdiv_eq_ediv_of_nonneg a (by decide)
theorem shr_47 (a : Int) : a.fdiv (2 ^ min (Int.toNat 47) IntKind.u64.bits) = a / 140737488355328 := by
 show a.fdiv (2 ^ 47) = _
 exact Int.fdiv_eq_ediv_of_nonneg a (by decide)
theorem shr_48 (a : Int) : a.fdiv (2 ^ min (Int.toNat 48) IntKind.u64.bits) = a / 281474976710656 := by
 show a.fdiv (2 ^ 48) = _
 exact Int.fdiv_eq_ediv_of_nonneg a (by decide)
theorem shr_50 (a : Int) : a.fdiv (2 ^ min (Int.toNat 50) IntKind.u64.bits) = a / 1125899906842624 := by
 show a.fdiv (2 ^ 50) = _
 exact Int.fdiv_eq_ediv_of_nonneg a (by decide)
theorem or_45 {x y : Int} (hx : 0 ≤ x ∧ x < 2251799813685248) (hy : 0 ≤ y ∧ y < 2251799813685248) : bits .or .u64 (x.fdiv (2 ^ min (Int.toNat 45) IntKind.u64.bits)) (IntKind.u64.wrap (y * 2 ^ min (Int.toNat 6) IntKind.u64.bits)) = x / 35184372088832 + y * 64 := by
 rw [shr_45, show y * 2 ^ min (Int.toNat 6) IntKind.u64.bits = y * 64 from rfl, wru (by omega)]
 obtain ⟨a, ha⟩ := Int.eq_ofNat_of_zero_le (show 0 ≤ x / 35184372088832 by omega)
 obtain ⟨b, rfl⟩ := Int.eq_ofNat_of_zero_le hy.1
 rw [ha]
 have e := bits_or_u64_nat a (2 ^ 6 * b) (by omega) (by omega)
 rw [Nat.or_comm, ← Nat.two_pow_add_eq_or_of_lt (show a < 2 ^ 6 by omega) b] at e
 rw [show (b : Int) * 64 = ((2 ^ 6 * b : Nat) : Int) by omega, e]
 omega
theorem or_47 {x y : Int} (hx : 0 ≤ x ∧ x < 2251799813685248) (hy : 0 ≤ y ∧ y < 2251799813685248) : bits .or .u64 (x.fdiv (2 ^ min (Int.toNat 47) IntKind.u64.bits)) (IntKind.u64.wrap (y * 2 ^ min (Int.toNat 4) IntKind.u64.bits)) = x / 140737488355328 + y * 16 := by
 rw [shr_47, show y * 2 ^ min (Int.toNat 4) IntKind.u64.bits = y * 16 from rfl, wru (by omega)]
 obtain ⟨a, ha⟩ := Int.eq_ofNat_of_zero_le (show 0 ≤ x / 140737488355328 by omega)
 obtain ⟨b, rfl⟩ := Int.eq_ofNat_of_zero_le hy.1
 rw [ha]
 have e := bits_or_u64_nat a (2 ^ 4 * b) (by omega) (by omega)
 rw [Nat.or_comm, ← Nat.two_pow_add_eq_or_of_lt (show a < 2 ^ 4 by omega) b] at e
 rw [show (b : Int) * 16 = ((2 ^ 4 * b : Nat) : Int) by omega, e]
 omega
theorem or_48 {x y : Int} (hx : 0 ≤ x ∧ x < 2251799813685248) (hy : 0 ≤ y ∧ y < 2251799813685248) : bits .or .u64 (x.fdiv (2 ^ min (Int.toNat 48) IntKind.u64.bits)) (IntKind.u64.wrap (y * 2 ^ min (Int.toNat 3) IntKind.u64.bits)) = x / 281474976710656 + y * 8 := by
 rw [shr_48, show y * 2 ^ min (Int.toNat 3) IntKind.u64.bits = y * 8 from rfl, wru (by omega)]
 obtain ⟨a, ha⟩ := Int.eq_ofNat_of_zero_le (show 0 ≤ x / 281474976710656 by omega)
 obtain ⟨b, rfl⟩ := Int.eq_ofNat_of_zero_le hy.1
 rw [ha]
 have e := bits_or_u64_nat a (2 ^ 3 * b) (by omega) (by omega)
 rw [Nat.or_comm, ← Nat.two_pow_add_eq_or_of_lt (show a < 2 ^ 3 by omega) b] at e
 rw [show (b : Int) * 8 = ((2 ^ 3 * b : Nat) : Int) by omega, e]
 omega
theorem or_50 {x y : Int} (hx : 0 ≤ x ∧ x < 2251799813685248) (hy : 0 ≤ y ∧ y < 2251799813685248) : bits .or .u64 (x.fdiv (2 ^ min (Int.toNat 50) IntKind.u64.bits)) (IntKind.u64.wrap (y * 2 ^ min (Int.toNat 1) IntKind.u64.bits)) = x / 1125899906842624 + y * 2 := by
 rw [shr_50, show y * 2 ^ min (Int.toNat 1) IntKind.u64.bits = y * 2 from rfl, wru (by omega)]
 obtain ⟨a, ha⟩ := Int.eq_ofNat_of_zero_le (show 0 ≤ x / 1125899906842624 by omega)
 obtain ⟨b, rfl⟩ := Int.eq_ofNat_of_zero_le hy.1
 rw [ha]
 have e := bits_or_u64_nat a (2 ^ 1 * b) (by omega) (by omega)
 rw [Nat.or_comm, ← Nat.two_pow_add_eq_or_of_lt (show a < 2 ^ 1 by omega) b] at e
 rw [show (b : Int) * 2 = ((2 ^ 1 * b : Nat) : Int) by omega, e]
 omega
theorem bytes_eq {c0 c1 c2 c3 c4 : Int} (n0 : 0 ≤ c0 ∧ c0 < 2251799813685248) (n1 : 0 ≤ c1 ∧ c1 < 2251799813685248) (n2 : 0 ≤ c2 ∧ c2 < 2251799813685248) (n3 : 0 ≤ c3 ∧ c3 < 2251799813685248) (n4 : 0 ≤ c4 ∧ c4 < 2251799813685248) : [] ++ [toB (IntKind.u8.wrap (c0.fdiv (2 ^ min (Int.toNat 0) IntKind.u64.bits)))] ++ [toB (IntKind.u8.wrap (c0.fdiv (2 ^ min (Int.toNat 8) IntKind.u64.bits)))] ++ [toB (IntKind.u8.wrap (c0.fdiv (2 ^ min (Int.toNat 16) IntKind.u64.bits)))] ++ [toB (IntKind.u8.wrap (c0.fdiv (2 ^ min (Int.toNat 24) IntKind.u64.bits)))] ++ [toB (IntKind.u8.wrap (c0.fdiv (2 ^ min (Int.toNat 32) IntKind.u64.bits)))] ++ [toB (IntKind.u8.wrap (c0.fdiv (2 ^ min (Int.toNat 40) IntKind.u64.bits)))] ++ [toB (IntKind.u8.wrap (bits .or .u64 (c0.fdiv (2 ^ min (Int.toNat 48) IntKind.u64.bits)) (IntKind.u64.wrap (c1 * 2 ^ min (Int.toNat 3) IntKind.u64.bits))))] ++ [toB (IntKind.u8.wrap (c1.fdiv (2 ^ min (Int.toNat 5) IntKind.u64.bits)))] ++ [toB (IntKind.u8.wrap (c1.fdiv (2 ^ min (Int.toNat 13) IntKind.u64.bits)))] ++ [toB (IntKind.u8.wrap (c1.fdiv (2 ^ min (Int.toNat 21) IntKind.u64.bits)))] ++ [toB (IntKind.u8.wrap (c1.fdiv (2 ^ min (Int.toNat 29) IntKind.u64.bits)))] ++ [toB (IntKind.u8.wrap (c1.fdiv (2 ^ min (Int.toNat 37) IntKind.u64.bits)))] ++ [toB (IntKind.u8.wrap (bits .or .u64 (c1.fdiv (2 ^ min (Int.toNat 45) IntKind.u64.bits)) (IntKind.u64.wrap (c2 * 2 ^ min (Int.toNat 6) IntKind.u64.bits))))] ++ [toB (IntKind.u8.wrap (c2.fdiv (2 ^ min (Int.toNat 2) IntKind.u64.bits)))] ++ [toB (IntKind.u8.wrap (c2.fdiv (2 ^ min (Int.toNat 10) IntKind.u64.bits)))] ++ [toB (IntKind.u8.wrap (c2.fdiv (2 ^ min (Int.toNat 18) IntKind.u64.bits)))] ++ [toB (IntKind.u8.wrap (c2.fdiv (2 ^ min (Int.toNat 26) IntKind.u64.bits)))] ++ [toB (IntKind.u8.wrap (c2.fdiv (2 ^ min (Int.toNat 34) IntKind.u64.bits)))] ++ [toB (IntKind.u8.wrap (c2.fdiv (2 ^ min (Int.toNat 42) IntKind.u64.bits)))] ++ [toB (IntKind.u8.wrap (bits .or .u64 (c2.fdiv (2 ^ min (Int.toNat 50) IntKind.u64.bits)) (IntKind.u64.wrap (c3 * 2 ^ min (Int.toNat 1) IntKind.u64.bits))))] ++ [toB (IntKind.u8.wrap (c3.fdiv (2 ^ min (Int.toNat 7) IntKind.u64.bits)))] ++ [toB (IntKind.u8.wrap (c3.fdiv (2 ^ min (Int.toNat 15) IntKind.u64.bits)))] ++ [toB (IntKind.u8.wrap (c3.fdiv (2 ^ min (Int.toNat 23) IntKind.u64.bits)))] ++ [toB (IntKind.u8.wrap (c3.fdiv (2 ^ min (Int.toNat 31) IntKind.u64.bits)))] ++ [toB (IntKind.u8.wrap (c3.fdiv (2 ^ min (Int.toNat 39) IntKind.u64.bits)))] ++ [toB (IntKind.u8.wrap (bits .or .u64 (c3.fdiv (2 ^ min (Int.toNat 47) IntKind.u64.bits)) (IntKind.u64.wrap (c4 * 2 ^ min (Int.toNat 4) IntKind.u64.bits))))] ++ [toB (IntKind.u8.wrap (c4.fdiv (2 ^ min (Int.toNat 4) IntKind.u64.bits)))] ++ [toB (IntKind.u8.wrap (c4.fdiv (2 ^ min (Int.toNat 12) IntKind.u64.bits)))] ++ [toB (IntKind.u8.wrap (c4.fdiv (2 ^ min (Int.toNat 20) IntKind.u64.bits)))] ++ [toB (IntKind.u8.wrap (c4.fdiv (2 ^ min (Int.toNat 28) IntKind.u64.bits)))] ++ [toB (IntKind.u8.wrap (c4.fdiv (2 ^ min (Int.toNat 36) IntKind.u64.bits)))] ++ [toB (IntKind.u8.wrap (c4.fdiv (2 ^ min (Int.toNat 44) IntKind.u64.bits)))] = leB 32 (valE (c0, c1, c2, c3, c4, ())) := by
 rw [or_48 n0 n1, or_45 n1 n2, or_50 n2 n3, or_47 n3 n4]
 simp only [shr_0, shr_2, shr_4, shr_5, shr_7, shr_8, shr_10, shr_12, shr_13, shr_15, shr_16, shr_18, shr_20, shr_21, shr_23, shr_24, shr_26, shr_28, shr_29, shr_31, shr_32, shr_34, shr_36, shr_37, shr_39, shr_40, shr_42, shr_44, shr_45, shr_47, shr_48, shr_50, IntKind.wrap_u8, List.nil_append, List.cons_append]
 unfold valE
 dsimp only
 rw [leB_limbs n0 n1 n2 n3 n4]
end Go.Proofs.Ytihnagafldpbnaa.V
