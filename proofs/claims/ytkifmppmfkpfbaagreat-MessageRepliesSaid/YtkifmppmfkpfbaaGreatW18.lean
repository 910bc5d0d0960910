import Derived.Test.YtkifmppmfkpfbaaGreatProg
import Derived.Test.YtkifmppmfkpfbaaGreatW17
import Derived.Test.YtkifmppmfkpfbaaGreatW03
set_option linter.unusedVariables false
set_option linter.unusedSimpArgs false
namespace Go.Proofs.YtkifmppmfkpfbaaGreat.V
section
theorem TIOk.au {P : Program} {t : TypeId} {i : TI} (a : (P.underlying t).map Sh.of = some i.sh := by kernel_rfl) (b : (P.info? t).map (·.size) = some i.size := by kernel_rfl) (c : ∀ ρ, (P.info? t).bind (fun j => j.zero.map fun z => z.cells.toList) = some (SV.dens ρ i.zero) := by intro ρ; kernel_rfl) (d : (P.info? t).bind (fun j => j.zero.map isAggV) = some i.sh.agg := by kernel_rfl) : TIOk P t i := ⟨a, b, c, d⟩
def ti1 : TI := ⟨.other, 1, [.val .nilFunc]⟩
theorem tt1 : TIOk Tryz.prog 1 ti1 := TIOk.au
def ti3 : TI := ⟨.int .i64, 1, [.int .i64 (.c 0)]⟩
theorem tt3 : TIOk Tryz.prog 3 ti3 := TIOk.au
def ti4 : TI := ⟨.bool, 1, [.bool (.c false)]⟩
theorem tt4 : TIOk Tryz.prog 4 ti4 := TIOk.au
def ti5 : TI := ⟨.int .u8, 1, [.int .u8 (.c 0)]⟩
theorem tt5 : TIOk Tryz.prog 5 ti5 := TIOk.au
def ti9 : TI := ⟨.string, 1, [.str (fun _ => ⟨#[]⟩)]⟩
theorem tt9 : TIOk Tryz.prog 9 ti9 := TIOk.au
def ti20 : TI := ⟨.other, 1, [.val .nilIface]⟩
theorem tt20 : TIOk Tryz.prog 20 ti20 := TIOk.au
def ti22 : TI := ⟨.slice 5, 1, [.val (.slice none 0 0)]⟩
theorem tt22 : TIOk Tryz.prog 22 ti22 := TIOk.au
def ti24 : TI := ⟨.pointer 74, 1, [.val (.pointer none)]⟩
theorem tt24 : TIOk Tryz.prog 24 ti24 := TIOk.au
def ti26 : TI := ⟨.int .u64, 1, [.int .u64 (.c 0)]⟩
theorem tt26 : TIOk Tryz.prog 26 ti26 := TIOk.au
def ti27 : TI := ⟨.int .u32, 1, [.int .u32 (.c 0)]⟩
theorem tt27 : TIOk Tryz.prog 27 ti27 := TIOk.au
def ti28 : TI := ⟨.struct [(0, 26), (1, 26), (2, 3), (3, 3), (4, 3), (5, 27)], 6, [.int .u64 (.c 0), .int .u64 (.c 0), .int .i64 (.c 0), .int .i64 (.c 0), .int .i64 (.c 0), .int .u32 (.c 0)]⟩
theorem tt28 : TIOk Tryz.prog 28 ti28 := TIOk.au
def ti29 : TI := ⟨.struct [(0, 26), (1, 26), (2, 3), (3, 3), (4, 3), (5, 27)], 6, [.int .u64 (.c 0), .int .u64 (.c 0), .int .i64 (.c 0), .int .i64 (.c 0), .int .i64 (.c 0), .int .u32 (.c 0)]⟩
theorem tt29 : TIOk Tryz.prog 29 ti29 := TIOk.au
def ti30 : TI := ⟨.slice 49, 1, [.val (.slice none 0 0)]⟩
theorem tt30 : TIOk Tryz.prog 30 ti30 := TIOk.au
def ti31 : TI := ⟨.struct [(0, 29), (6, 30)], 7, [.int .u64 (.c 0), .int .u64 (.c 0), .int .i64 (.c 0), .int .i64 (.c 0), .int .i64 (.c 0), .int .u32 (.c 0), .val (.slice none 0 0)]⟩
theorem tt31 : TIOk Tryz.prog 31 ti31 := TIOk.au
def ti32 : TI := ⟨.struct [(0, 29), (6, 30)], 7, [.int .u64 (.c 0), .int .u64 (.c 0), .int .i64 (.c 0), .int .i64 (.c 0), .int .i64 (.c 0), .int .u32 (.c 0), .val (.slice none 0 0)]⟩
theorem tt32 : TIOk Tryz.prog 32 ti32 := TIOk.au
def ti34 : TI := ⟨.slice 51, 1, [.val (.slice none 0 0)]⟩
theorem tt34 : TIOk Tryz.prog 34 ti34 := TIOk.au
def ti35 : TI := ⟨.slice 132, 1, [.val (.slice none 0 0)]⟩
theorem tt35 : TIOk Tryz.prog 35 ti35 := TIOk.au
def ti36 : TI := ⟨.struct [(0, 3), (1, 22)], 2, [.int .i64 (.c 0), .val (.slice none 0 0)]⟩
theorem tt36 : TIOk Tryz.prog 36 ti36 := TIOk.au
def ti37 : TI := ⟨.struct [(0, 3), (1, 22)], 2, [.int .i64 (.c 0), .val (.slice none 0 0)]⟩
theorem tt37 : TIOk Tryz.prog 37 ti37 := TIOk.au
def ti38 : TI := ⟨.struct [(0, 3), (1, 22)], 2, [.int .i64 (.c 0), .val (.slice none 0 0)]⟩
theorem tt38 : TIOk Tryz.prog 38 ti38 := TIOk.au
def ti39 : TI := ⟨.struct [(0, 3), (1, 22)], 2, [.int .i64 (.c 0), .val (.slice none 0 0)]⟩
theorem tt39 : TIOk Tryz.prog 39 ti39 := TIOk.au
def ti40 : TI := ⟨.struct [(0, 3), (1, 22)], 2, [.int .i64 (.c 0), .val (.slice none 0 0)]⟩
theorem tt40 : TIOk Tryz.prog 40 ti40 := TIOk.au
def ti41 : TI := ⟨.struct [(0, 3), (1, 22)], 2, [.int .i64 (.c 0), .val (.slice none 0 0)]⟩
theorem tt41 : TIOk Tryz.prog 41 ti41 := TIOk.au
def ti42 : TI := ⟨.struct [(0, 3), (1, 22), (2, 3), (3, 22)], 4, [.int .i64 (.c 0), .val (.slice none 0 0), .int .i64 (.c 0), .val (.slice none 0 0)]⟩
theorem tt42 : TIOk Tryz.prog 42 ti42 := TIOk.au
def ti43 : TI := ⟨.struct [(0, 3), (1, 22), (2, 3), (3, 22)], 4, [.int .i64 (.c 0), .val (.slice none 0 0), .int .i64 (.c 0), .val (.slice none 0 0)]⟩
theorem tt43 : TIOk Tryz.prog 43 ti43 := TIOk.au
def ti44 : TI := ⟨.slice 22, 1, [.val (.slice none 0 0)]⟩
theorem tt44 : TIOk Tryz.prog 44 ti44 := TIOk.au
def ti45 : TI := ⟨.struct [(0, 3), (1, 44)], 2, [.int .i64 (.c 0), .val (.slice none 0 0)]⟩
theorem tt45 : TIOk Tryz.prog 45 ti45 := TIOk.au
def ti46 : TI := ⟨.struct [(0, 3), (1, 44)], 2, [.int .i64 (.c 0), .val (.slice none 0 0)]⟩
theorem tt46 : TIOk Tryz.prog 46 ti46 := TIOk.au
def ti47 : TI := ⟨.slice 139, 1, [.val (.slice none 0 0)]⟩
theorem tt47 : TIOk Tryz.prog 47 ti47 := TIOk.au
def ti48 : TI := ⟨.struct [(0, 3), (1, 35), (2, 37), (4, 39), (6, 41), (8, 43), (12, 46), (14, 47), (15, 22)], 16, [.int .i64 (.c 0), .val (.slice none 0 0), .int .i64 (.c 0), .val (.slice none 0 0), .int .i64 (.c 0), .val (.slice none 0 0), .int .i64 (.c 0), .val (.slice none 0 0), .int .i64 (.c 0), .val (.slice none 0 0), .int .i64 (.c 0), .val (.slice none 0 0), .int .i64 (.c 0), .val (.slice none 0 0), .val (.slice none 0 0), .val (.slice none 0 0)]⟩
theorem tt48 : TIOk Tryz.prog 48 ti48 := TIOk.au
def ti49 : TI := ⟨.struct [(0, 3), (1, 35), (2, 37), (4, 39), (6, 41), (8, 43), (12, 46), (14, 47), (15, 22)], 16, [.int .i64 (.c 0), .val (.slice none 0 0), .int .i64 (.c 0), .val (.slice none 0 0), .int .i64 (.c 0), .val (.slice none 0 0), .int .i64 (.c 0), .val (.slice none 0 0), .int .i64 (.c 0), .val (.slice none 0 0), .int .i64 (.c 0), .val (.slice none 0 0), .int .i64 (.c 0), .val (.slice none 0 0), .val (.slice none 0 0), .val (.slice none 0 0)]⟩
theorem tt49 : TIOk Tryz.prog 49 ti49 := TIOk.au
def ti50 : TI := ⟨.struct [(0, 3), (1, 4), (2, 22)], 3, [.int .i64 (.c 0), .bool (.c false), .val (.slice none 0 0)]⟩
theorem tt50 : TIOk Tryz.prog 50 ti50 := TIOk.au
def ti51 : TI := ⟨.struct [(0, 3), (1, 4), (2, 22)], 3, [.int .i64 (.c 0), .bool (.c false), .val (.slice none 0 0)]⟩
theorem tt51 : TIOk Tryz.prog 51 ti51 := TIOk.au
def ti52 : TI := ⟨.int .i64, 1, [.int .i64 (.c 0)]⟩
theorem tt52 : TIOk Tryz.prog 52 ti52 := TIOk.au
def ti63 : TI := ⟨.slice 3, 1, [.val (.slice none 0 0)]⟩
theorem tt63 : TIOk Tryz.prog 63 ti63 := TIOk.au
def ti72 : TI := ⟨.other, 1, [.val .nilFunc]⟩
theorem tt72 : TIOk Tryz.prog 72 ti72 := TIOk.au
def ti73 : TI := ⟨.struct [(0, 22), (1, 3)], 2, [.val (.slice none 0 0), .int .i64 (.c 0)]⟩
theorem tt73 : TIOk Tryz.prog 73 ti73 := TIOk.au
def ti74 : TI := ⟨.struct [(0, 22), (1, 3)], 2, [.val (.slice none 0 0), .int .i64 (.c 0)]⟩
theorem tt74 : TIOk Tryz.prog 74 ti74 := TIOk.au
def ti92 : TI := ⟨.int .u64, 1, [.int .u64 (.c 0)]⟩
theorem tt92 : TIOk Tryz.prog 92 ti92 := TIOk.au
def ti116 : TI := ⟨.other, 1, [.val .nilFunc]⟩
theorem tt116 : TIOk Tryz.prog 116 ti116 := TIOk.au
def ti117 : TI := ⟨.other, 1, [.val .nilFunc]⟩
theorem tt117 : TIOk Tryz.prog 117 ti117 := TIOk.au
def ti119 : TI := ⟨.struct [(0, 51), (3, 3), (4, 22), (5, 52)], 6, [.int .i64 (.c 0), .bool (.c false), .val (.slice none 0 0), .int .i64 (.c 0), .val (.slice none 0 0), .int .i64 (.c 0)]⟩
theorem tt119 : TIOk Tryz.prog 119 ti119 := TIOk.au
def ti120 : TI := ⟨.struct [(0, 51), (3, 3), (4, 22), (5, 52)], 6, [.int .i64 (.c 0), .bool (.c false), .val (.slice none 0 0), .int .i64 (.c 0), .val (.slice none 0 0), .int .i64 (.c 0)]⟩
theorem tt120 : TIOk Tryz.prog 120 ti120 := TIOk.au
def ti124 : TI := ⟨.pointer 126, 1, [.val (.pointer none)]⟩
theorem tt124 : TIOk Tryz.prog 124 ti124 := TIOk.au
def ti125 : TI := ⟨.struct [(0, 22), (1, 3), (2, 4)], 3, [.val (.slice none 0 0), .int .i64 (.c 0), .bool (.c false)]⟩
theorem tt125 : TIOk Tryz.prog 125 ti125 := TIOk.au
def ti126 : TI := ⟨.struct [(0, 22), (1, 3), (2, 4)], 3, [.val (.slice none 0 0), .int .i64 (.c 0), .bool (.c false)]⟩
theorem tt126 : TIOk Tryz.prog 126 ti126 := TIOk.au
def ti129 : TI := ⟨.map 3 63, 1, [.val (.map none)]⟩
theorem tt129 : TIOk Tryz.prog 129 ti129 := TIOk.au
def ti130 : TI := ⟨.slice 135, 1, [.val (.slice none 0 0)]⟩
theorem tt130 : TIOk Tryz.prog 130 ti130 := TIOk.au
def ti131 : TI := ⟨.struct [(0, 3), (1, 3), (2, 22), (3, 130)], 4, [.int .i64 (.c 0), .int .i64 (.c 0), .val (.slice none 0 0), .val (.slice none 0 0)]⟩
theorem tt131 : TIOk Tryz.prog 131 ti131 := TIOk.au
def ti132 : TI := ⟨.struct [(0, 3), (1, 3), (2, 22), (3, 130)], 4, [.int .i64 (.c 0), .int .i64 (.c 0), .val (.slice none 0 0), .val (.slice none 0 0)]⟩
theorem tt132 : TIOk Tryz.prog 132 ti132 := TIOk.au
def ti133 : TI := ⟨.map 135 4, 1, [.val (.map none)]⟩
theorem tt133 : TIOk Tryz.prog 133 ti133 := TIOk.au
def ti134 : TI := ⟨.struct [(0, 3), (1, 3), (2, 3)], 3, [.int .i64 (.c 0), .int .i64 (.c 0), .int .i64 (.c 0)]⟩
theorem tt134 : TIOk Tryz.prog 134 ti134 := TIOk.au
def ti135 : TI := ⟨.struct [(0, 3), (1, 3), (2, 3)], 3, [.int .i64 (.c 0), .int .i64 (.c 0), .int .i64 (.c 0)]⟩
theorem tt135 : TIOk Tryz.prog 135 ti135 := TIOk.au
def ti136 : TI := ⟨.struct [(0, 3), (1, 26), (2, 26)], 3, [.int .i64 (.c 0), .int .u64 (.c 0), .int .u64 (.c 0)]⟩
theorem tt136 : TIOk Tryz.prog 136 ti136 := TIOk.au
def ti137 : TI := ⟨.struct [(0, 3), (1, 26), (2, 26)], 3, [.int .i64 (.c 0), .int .u64 (.c 0), .int .u64 (.c 0)]⟩
theorem tt137 : TIOk Tryz.prog 137 ti137 := TIOk.au
def ti138 : TI := ⟨.struct [(0, 3), (1, 3), (2, 3), (3, 137), (6, 137)], 9, [.int .i64 (.c 0), .int .i64 (.c 0), .int .i64 (.c 0), .int .i64 (.c 0), .int .u64 (.c 0), .int .u64 (.c 0), .int .i64 (.c 0), .int .u64 (.c 0), .int .u64 (.c 0)]⟩
theorem tt138 : TIOk Tryz.prog 138 ti138 := TIOk.au
def ti139 : TI := ⟨.struct [(0, 3), (1, 3), (2, 3), (3, 137), (6, 137)], 9, [.int .i64 (.c 0), .int .i64 (.c 0), .int .i64 (.c 0), .int .i64 (.c 0), .int .u64 (.c 0), .int .u64 (.c 0), .int .i64 (.c 0), .int .u64 (.c 0), .int .u64 (.c 0)]⟩
theorem tt139 : TIOk Tryz.prog 139 ti139 := TIOk.au
def ti149 : TI := ⟨.other, 1, [.val .nilFunc]⟩
theorem tt149 : TIOk Tryz.prog 149 ti149 := TIOk.au
def ti151 : TI := ⟨.pointer 49, 1, [.val (.pointer none)]⟩
theorem tt151 : TIOk Tryz.prog 151 ti151 := TIOk.au
def ti152 : TI := ⟨.other, 1, [.val .nilFunc]⟩
theorem tt152 : TIOk Tryz.prog 152 ti152 := TIOk.au
def ti153 : TI := ⟨.struct [(0, 151)], 1, [.val (.pointer none)]⟩
theorem tt153 : TIOk Tryz.prog 153 ti153 := TIOk.au
def ti154 : TI := ⟨.struct [(0, 151)], 1, [.val (.pointer none)]⟩
theorem tt154 : TIOk Tryz.prog 154 ti154 := TIOk.au
def ti159 : TI := ⟨.slice 43, 1, [.val (.slice none 0 0)]⟩
theorem tt159 : TIOk Tryz.prog 159 ti159 := TIOk.au
def ti170 : TI := ⟨.array 4 5, 4, [.int .u8 (.c 0), .int .u8 (.c 0), .int .u8 (.c 0), .int .u8 (.c 0)]⟩
theorem tt170 : TIOk Tryz.prog 170 ti170 := TIOk.au
def ti171 : TI := ⟨.array 4 5, 4, [.int .u8 (.c 0), .int .u8 (.c 0), .int .u8 (.c 0), .int .u8 (.c 0)]⟩
theorem tt171 : TIOk Tryz.prog 171 ti171 := TIOk.au
def ti189 : TI := ⟨.slice 26, 1, [.val (.slice none 0 0)]⟩
theorem tt189 : TIOk Tryz.prog 189 ti189 := TIOk.au
def ti190 : TI := ⟨.struct [], 0, []⟩
theorem tt190 : TIOk Tryz.prog 190 ti190 := TIOk.au
def ti191 : TI := ⟨.struct [], 0, []⟩
theorem tt191 : TIOk Tryz.prog 191 ti191 := TIOk.au
def ti193 : TI := ⟨.pointer 197, 1, [.val (.pointer none)]⟩
theorem tt193 : TIOk Tryz.prog 193 ti193 := TIOk.au
def ti194 : TI := ⟨.struct [(0, 22)], 1, [.val (.slice none 0 0)]⟩
theorem tt194 : TIOk Tryz.prog 194 ti194 := TIOk.au
def ti195 : TI := ⟨.struct [(0, 22)], 1, [.val (.slice none 0 0)]⟩
theorem tt195 : TIOk Tryz.prog 195 ti195 := TIOk.au
def ti196 : TI := ⟨.struct [(0, 195)], 1, [.val (.slice none 0 0)]⟩
theorem tt196 : TIOk Tryz.prog 196 ti196 := TIOk.au
def ti197 : TI := ⟨.struct [(0, 195)], 1, [.val (.slice none 0 0)]⟩
theorem tt197 : TIOk Tryz.prog 197 ti197 := TIOk.au
def ti214 : TI := ⟨.struct [(0, 137)], 3, [.int .i64 (.c 0), .int .u64 (.c 0), .int .u64 (.c 0)]⟩
theorem tt214 : TIOk Tryz.prog 214 ti214 := TIOk.au
def ti215 : TI := ⟨.struct [(0, 137)], 3, [.int .i64 (.c 0), .int .u64 (.c 0), .int .u64 (.c 0)]⟩
theorem tt215 : TIOk Tryz.prog 215 ti215 := TIOk.au
/-- The types that this seat's functions meet. -/
def tt : TT := nd0 74 (nd0 37 (nd0 27 (nd0 9 (nd0 4 (nd0 3 (lf0 1 ti1) (lf0 3 ti3)) (nd0 5 (lf0 4 ti4) (lf0 5 ti5))) (nd0 22 (nd0 20 (lf0 9 ti9) (lf0 20 ti20)) (nd0 24 (lf0 22 ti22) (nd0 26 (lf0 24 ti24) (lf0 26 ti26))))) (nd0 31 (nd0 29 (nd0 28 (lf0 27 ti27) (lf0 28 ti28)) (nd0 30 (lf0 29 ti29) (lf0 30 ti30))) (nd0 34 (nd0 32 (lf0 31 ti31) (lf0 32 ti32)) (nd0 35 (lf0 34 ti34) (nd0 36 (lf0 35 ti35) (lf0 36 ti36)))))) (nd0 46 (nd0 41 (nd0 39 (nd0 38 (lf0 37 ti37) (lf0 38 ti38)) (nd0 40 (lf0 39 ti39) (lf0 40 ti40))) (nd0 43 (nd0 42 (lf0 41 ti41) (lf0 42 ti42)) (nd0 44 (lf0 43 ti43) (nd0 45 (lf0 44 ti44) (lf0 45 ti45))))) (nd0 51 (nd0 48 (nd0 47 (lf0 46 ti46) (lf0 47 ti47)) (nd0 49 (lf0 48 ti48) (nd0 50 (lf0 49 ti49) (lf0 50 ti50)))) (nd0 63 (nd0 52 (lf0 51 ti51) (lf0 52 ti52)) (nd0 72 (lf0 63 ti63) (nd0 73 (lf0 72 ti72) (lf0 73 ti73))))))) (nd0 139 (nd0 129 (nd0 119 (nd0 116 (nd0 92 (lf0 74 ti74) (lf0 92 ti92)) (nd0 117 (lf0 116 ti116) (lf0 117 ti117))) (nd0 124 (nd0 120 (lf0 119 ti119) (lf0 120 ti120)) (nd0 125 (lf0 124 ti124) (nd0 126 (lf0 125 ti125) (lf0 126 ti126))))) (nd0 134 (nd0 131 (nd0 130 (lf0 129 ti129) (lf0 130 ti130)) (nd0 132 (lf0 131 ti131) (nd0 133 (lf0 132 ti132) (lf0 133 ti133)))) (nd0 136 (nd0 135 (lf0 134 ti134) (lf0 135 ti135)) (nd0 137 (lf0 136 ti136) (nd0 138 (lf0 137 ti137) (lf0 138 ti138)))))) (nd0 189 (nd0 153 (nd0 151 (nd0 149 (lf0 139 ti139) (lf0 149 ti149)) (nd0 152 (lf0 151 ti151) (lf0 152 ti152))) (nd0 159 (nd0 154 (lf0 153 ti153) (lf0 154 ti154)) (nd0 170 (lf0 159 ti159) (nd0 171 (lf0 170 ti170) (lf0 171 ti171))))) (nd0 195 (nd0 191 (nd0 190 (lf0 189 ti189) (lf0 190 ti190)) (nd0 193 (lf0 191 ti191) (nd0 194 (lf0 193 ti193) (lf0 194 ti194)))) (nd0 197 (nd0 196 (lf0 195 ti195) (lf0 196 ti196)) (nd0 214 (lf0 197 ti197) (nd0 215 (lf0 214 ti214) (lf0 215 ti215)))))))
theorem tt_ok : TT.ok Tryz.prog tt := (nd0_ok (nd0_ok (nd0_ok (nd0_ok (nd0_ok (nd0_ok (lf0_ok tt1) (lf0_ok tt3)) (nd0_ok (lf0_ok tt4) (lf0_ok tt5))) (nd0_ok (nd0_ok (lf0_ok tt9) (lf0_ok tt20)) (nd0_ok (lf0_ok tt22) (nd0_ok (lf0_ok tt24) (lf0_ok tt26))))) (nd0_ok (nd0_ok (nd0_ok (lf0_ok tt27) (lf0_ok tt28)) (nd0_ok (lf0_ok tt29) (lf0_ok tt30))) (nd0_ok (nd0_ok (lf0_ok tt31) (lf0_ok tt32)) (nd0_ok (lf0_ok tt34) (nd0_ok (lf0_ok tt35) (lf0_ok tt36)))))) (nd0_ok (nd0_ok (nd0_ok (nd0_ok (lf0_ok tt37) (lf0_ok tt38)) (nd0_ok (lf0_ok tt39) (lf0_ok tt40))) (nd0_ok (nd0_ok (lf0_ok tt41) (lf0_ok tt42)) (nd0_ok (lf0_ok tt43) (nd0_ok (lf0_ok tt44) (lf0_ok tt45))))) (nd0_ok (nd0_ok (nd0_ok (lf0_ok tt46) (lf0_ok tt47)) (nd0_ok (lf0_ok tt48) (nd0_ok (lf0_ok tt49) (lf0_ok tt50)))) (nd0_ok (nd0_ok (lf0_ok tt51) (lf0_ok tt52)) (nd0_ok (lf0_ok tt63) (nd0_ok (lf0_ok tt72) (lf0_ok tt73))))))) (nd0_ok (nd0_ok (nd0_ok (nd0_ok (nd0_ok (lf0_ok tt74) (lf0_ok tt92)) (nd0_ok (lf0_ok tt116) (lf0_ok tt117))) (nd0_ok (nd0_ok (lf0_ok tt119) (lf0_ok tt120)) (nd0_ok (lf0_ok tt124) (nd0_ok (lf0_ok tt125) (lf0_ok tt126))))) (nd0_ok (nd0_ok (nd0_ok (lf0_ok tt129) (lf0_ok tt130)) (nd0_ok (lf0_ok tt131) (nd0_ok (lf0_ok tt132) (lf0_ok tt133)))) (nd0_ok (nd0_ok (lf0_ok tt134) (lf0_ok tt135)) (nd0_ok (lf0_ok tt136) (nd0_ok (lf0_ok tt137) (lf0_ok tt138)))))) (nd0_ok (nd0_ok (nd0_ok (nd0_ok (lf0_ok tt139) (lf0_ok tt149)) (nd0_ok (lf0_ok tt151) (lf0_ok tt152))) (nd0_ok (nd0_ok (lf0_ok tt153) (lf0_ok tt154)) (nd0_ok (lf0_ok tt159) (nd0_ok (lf0_ok tt170) (lf0_ok tt171))))) (nd0_ok (nd0_ok (nd0_ok (lf0_ok tt189) (lf0_ok tt190)) (nd0_ok (lf0_ok tt191) (nd0_ok (lf0_ok tt193) (lf0_ok tt194)))) (nd0_ok (nd0_ok (lf0_ok tt195) (lf0_ok tt196)) (nd0_ok (lf0_ok tt197) (nd0_ok (lf0_ok tt214) (lf0_ok tt215))))))))
theorem ek3 : EKOk Tryz.prog 3 (.int) := ⟨_, Tryz.underlying3⟩
theorem ek4 : EKOk Tryz.prog 4 (.bool) := Tryz.underlying4
theorem ek5 : EKOk Tryz.prog 5 (.int) := ⟨_, Tryz.underlying5⟩
theorem ek9 : EKOk Tryz.prog 9 (.str) := Tryz.underlying9
theorem ek26 : EKOk Tryz.prog 26 (.int) := ⟨_, Tryz.underlying26⟩
theorem ek27 : EKOk Tryz.prog 27 (.int) := ⟨_, Tryz.underlying27⟩
theorem ek28 : EKOk Tryz.prog 28 (.struct [(0, 26), (1, 26), (2, 3), (3, 3), (4, 3), (5, 27)]) := by exact (⟨by kernel_rfl, by kernel_rfl, by kernel_rfl⟩ : EKS Tryz.prog 28 [(0, 26), (1, 26), (2, 3), (3, 3), (4, 3), (5, 27)])
theorem ek29 : EKOk Tryz.prog 29 (.struct [(0, 26), (1, 26), (2, 3), (3, 3), (4, 3), (5, 27)]) := by exact (⟨by kernel_rfl, by kernel_rfl, by kernel_rfl⟩ : EKS Tryz.prog 29 [(0, 26), (1, 26), (2, 3), (3, 3), (4, 3), (5, 27)])
theorem ek52 : EKOk Tryz.prog 52 (.int) := ⟨_, Tryz.underlying52⟩
theorem ek92 : EKOk Tryz.prog 92 (.int) := ⟨_, Tryz.underlying92⟩
theorem ek134 : EKOk Tryz.prog 134 (.struct [(0, 3), (1, 3), (2, 3)]) := by exact (⟨by kernel_rfl, by kernel_rfl, by kernel_rfl⟩ : EKS Tryz.prog 134 [(0, 3), (1, 3), (2, 3)])
theorem ek135 : EKOk Tryz.prog 135 (.struct [(0, 3), (1, 3), (2, 3)]) := by exact (⟨by kernel_rfl, by kernel_rfl, by kernel_rfl⟩ : EKS Tryz.prog 135 [(0, 3), (1, 3), (2, 3)])
theorem ek136 : EKOk Tryz.prog 136 (.struct [(0, 3), (1, 26), (2, 26)]) := by exact (⟨by kernel_rfl, by kernel_rfl, by kernel_rfl⟩ : EKS Tryz.prog 136 [(0, 3), (1, 26), (2, 26)])
theorem ek137 : EKOk Tryz.prog 137 (.struct [(0, 3), (1, 26), (2, 26)]) := by exact (⟨by kernel_rfl, by kernel_rfl, by kernel_rfl⟩ : EKS Tryz.prog 137 [(0, 3), (1, 26), (2, 26)])
theorem ek138 : EKOk Tryz.prog 138 (.struct [(0, 3), (1, 3), (2, 3), (3, 137), (6, 137)]) := by exact (⟨by kernel_rfl, by kernel_rfl, by kernel_rfl⟩ : EKS Tryz.prog 138 [(0, 3), (1, 3), (2, 3), (3, 137), (6, 137)])
theorem ek139 : EKOk Tryz.prog 139 (.struct [(0, 3), (1, 3), (2, 3), (3, 137), (6, 137)]) := by exact (⟨by kernel_rfl, by kernel_rfl, by kernel_rfl⟩ : EKS Tryz.prog 139 [(0, 3), (1, 3), (2, 3), (3, 137), (6, 137)])
theorem ek170 : EKOk Tryz.prog 170 (.array 4 5) := Tryz.underlying170
theorem ek171 : EKOk Tryz.prog 171 (.array 4 5) := Tryz.underlying171
theorem ek190 : EKOk Tryz.prog 190 (.struct []) := by exact (⟨by kernel_rfl, by kernel_rfl, by kernel_rfl⟩ : EKS Tryz.prog 190 [])
theorem ek191 : EKOk Tryz.prog 191 (.struct []) := by exact (⟨by kernel_rfl, by kernel_rfl, by kernel_rfl⟩ : EKS Tryz.prog 191 [])
theorem ek214 : EKOk Tryz.prog 214 (.struct [(0, 137)]) := by exact (⟨by kernel_rfl, by kernel_rfl, by kernel_rfl⟩ : EKS Tryz.prog 214 [(0, 137)])
theorem ek215 : EKOk Tryz.prog 215 (.struct [(0, 137)]) := by exact (⟨by kernel_rfl, by kernel_rfl, by kernel_rfl⟩ : EKS Tryz.prog 215 [(0, 137)])
def et : ET := nd0 135 (nd0 27 (nd0 5 (nd0 4 (lf0 3 (.int)) (lf0 4 (.bool))) (nd0 9 (lf0 5 (.int)) (nd0 26 (lf0 9 (.str)) (lf0 26 (.int))))) (nd0 52 (nd0 28 (lf0 27 (.int)) (nd0 29 (lf0 28 (.struct [(0, 26), (1, 26), (2, 3), (3, 3), (4, 3), (5, 27)])) (lf0 29 (.struct [(0, 26), (1, 26), (2, 3), (3, 3), (4, 3), (5, 27)])))) (nd0 92 (lf0 52 (.int)) (nd0 134 (lf0 92 (.int)) (lf0 134 (.struct [(0, 3), (1, 3), (2, 3)])))))) (nd0 170 (nd0 137 (nd0 136 (lf0 135 (.struct [(0, 3), (1, 3), (2, 3)])) (lf0 136 (.struct [(0, 3), (1, 26), (2, 26)]))) (nd0 138 (lf0 137 (.struct [(0, 3), (1, 26), (2, 26)])) (nd0 139 (lf0 138 (.struct [(0, 3), (1, 3), (2, 3), (3, 137), (6, 137)])) (lf0 139 (.struct [(0, 3), (1, 3), (2, 3), (3, 137), (6, 137)]))))) (nd0 191 (nd0 171 (lf0 170 (.array 4 5)) (nd0 190 (lf0 171 (.array 4 5)) (lf0 190 (.struct [])))) (nd0 214 (lf0 191 (.struct [])) (nd0 215 (lf0 214 (.struct [(0, 137)])) (lf0 215 (.struct [(0, 137)]))))))
theorem et_ok : ET.ok Tryz.prog et := (nd0_ok (nd0_ok (nd0_ok (nd0_ok (lf0_ok ek3) (lf0_ok ek4)) (nd0_ok (lf0_ok ek5) (nd0_ok (lf0_ok ek9) (lf0_ok ek26)))) (nd0_ok (nd0_ok (lf0_ok ek27) (nd0_ok (lf0_ok ek28) (lf0_ok ek29))) (nd0_ok (lf0_ok ek52) (nd0_ok (lf0_ok ek92) (lf0_ok ek134))))) (nd0_ok (nd0_ok (nd0_ok (lf0_ok ek135) (lf0_ok ek136)) (nd0_ok (lf0_ok ek137) (nd0_ok (lf0_ok ek138) (lf0_ok ek139)))) (nd0_ok (nd0_ok (lf0_ok ek170) (nd0_ok (lf0_ok ek171) (lf0_ok ek190))) (nd0_ok (lf0_ok ek191) (nd0_ok (lf0_ok ek214) (lf0_ok ek215))))))
theorem eg28 : Tryz.prog.eqGuardType Tryz.prog.depth 28 = false := by kernel_rfl
theorem eg29 : Tryz.prog.eqGuardType Tryz.prog.depth 29 = false := by kernel_rfl
theorem eg134 : Tryz.prog.eqGuardType Tryz.prog.depth 134 = false := by kernel_rfl
theorem eg135 : Tryz.prog.eqGuardType Tryz.prog.depth 135 = false := by kernel_rfl
theorem eg136 : Tryz.prog.eqGuardType Tryz.prog.depth 136 = false := by kernel_rfl
theorem eg137 : Tryz.prog.eqGuardType Tryz.prog.depth 137 = false := by kernel_rfl
theorem eg138 : Tryz.prog.eqGuardType Tryz.prog.depth 138 = false := by kernel_rfl
theorem eg139 : Tryz.prog.eqGuardType Tryz.prog.depth 139 = false := by kernel_rfl
theorem eg170 : Tryz.prog.eqGuardType Tryz.prog.depth 170 = false := by kernel_rfl
theorem eg171 : Tryz.prog.eqGuardType Tryz.prog.depth 171 = false := by kernel_rfl
theorem eg190 : Tryz.prog.eqGuardType Tryz.prog.depth 190 = false := by kernel_rfl
theorem eg191 : Tryz.prog.eqGuardType Tryz.prog.depth 191 = false := by kernel_rfl
theorem eg214 : Tryz.prog.eqGuardType Tryz.prog.depth 214 = false := by kernel_rfl
theorem eg215 : Tryz.prog.eqGuardType Tryz.prog.depth 215 = false := by kernel_rfl
def qt : EqT := nd0 139 (nd0 135 (nd0 29 (lf0 28 (eqF tt et 28)) (nd0 134 (lf0 29 (eqF tt et 29)) (lf0 134 (eqF tt et 134)))) (nd0 137 (nd0 136 (lf0 135 (eqF tt et 135)) (lf0 136 (eqF tt et 136))) (nd0 138 (lf0 137 (eqF tt et 137)) (lf0 138 (eqF tt et 138))))) (nd0 190 (nd0 170 (lf0 139 (eqF tt et 139)) (nd0 171 (lf0 170 (eqF tt et 170)) (lf0 171 (eqF tt et 171)))) (nd0 214 (nd0 191 (lf0 190 (eqF tt et 190)) (lf0 191 (eqF tt et 191))) (nd0 215 (lf0 214 (eqF tt et 214)) (lf0 215 (eqF tt et 215)))))
theorem qt_ok : EqT.ok Tryz.prog qt := (nd0_ok (nd0_ok (nd0_ok (lf0_ok (eqF_ok tt_ok et_ok eg28)) (nd0_ok (lf0_ok (eqF_ok tt_ok et_ok eg29)) (lf0_ok (eqF_ok tt_ok et_ok eg134)))) (nd0_ok (nd0_ok (lf0_ok (eqF_ok tt_ok et_ok eg135)) (lf0_ok (eqF_ok tt_ok et_ok eg136))) (nd0_ok (lf0_ok (eqF_ok tt_ok et_ok eg137)) (lf0_ok (eqF_ok tt_ok et_ok eg138))))) (nd0_ok (nd0_ok (lf0_ok (eqF_ok tt_ok et_ok eg139)) (nd0_ok (lf0_ok (eqF_ok tt_ok et_ok eg170)) (lf0_ok (eqF_ok tt_ok et_ok eg171)))) (nd0_ok (nd0_ok (lf0_ok (eqF_ok tt_ok et_ok eg190)) (lf0_ok (eqF_ok tt_ok et_ok eg191))) (nd0_ok (lf0_ok (eqF_ok tt_ok et_ok eg214)) (lf0_ok (eqF_ok tt_ok et_ok eg215))))))
def bt : TypeId → Option Nat := nd0 74 (nd0 37 (nd0 27 (nd0 9 (nd0 4 (nd0 3 (lf0 1 8) (lf0 3 8)) (nd0 5 (lf0 4 1) (lf0 5 1))) (nd0 22 (nd0 20 (lf0 9 16) (lf0 20 16)) (nd0 24 (lf0 22 24) (nd0 26 (lf0 24 8) (lf0 26 8))))) (nd0 31 (nd0 29 (nd0 28 (lf0 27 4) (lf0 28 48)) (nd0 30 (lf0 29 48) (lf0 30 24))) (nd0 34 (nd0 32 (lf0 31 72) (lf0 32 72)) (nd0 35 (lf0 34 24) (nd0 36 (lf0 35 24) (lf0 36 32)))))) (nd0 46 (nd0 41 (nd0 39 (nd0 38 (lf0 37 32) (lf0 38 32)) (nd0 40 (lf0 39 32) (lf0 40 32))) (nd0 43 (nd0 42 (lf0 41 32) (lf0 42 64)) (nd0 44 (lf0 43 64) (nd0 45 (lf0 44 24) (lf0 45 32))))) (nd0 51 (nd0 48 (nd0 47 (lf0 46 32) (lf0 47 24)) (nd0 49 (lf0 48 272) (nd0 50 (lf0 49 272) (lf0 50 40)))) (nd0 63 (nd0 52 (lf0 51 40) (lf0 52 8)) (nd0 72 (lf0 63 24) (nd0 73 (lf0 72 8) (lf0 73 32))))))) (nd0 139 (nd0 129 (nd0 119 (nd0 116 (nd0 92 (lf0 74 32) (lf0 92 8)) (nd0 117 (lf0 116 8) (lf0 117 8))) (nd0 124 (nd0 120 (lf0 119 80) (lf0 120 80)) (nd0 125 (lf0 124 8) (nd0 126 (lf0 125 40) (lf0 126 40))))) (nd0 134 (nd0 131 (nd0 130 (lf0 129 8) (lf0 130 24)) (nd0 132 (lf0 131 64) (nd0 133 (lf0 132 64) (lf0 133 8)))) (nd0 136 (nd0 135 (lf0 134 24) (lf0 135 24)) (nd0 137 (lf0 136 24) (nd0 138 (lf0 137 24) (lf0 138 72)))))) (nd0 189 (nd0 153 (nd0 151 (nd0 149 (lf0 139 72) (lf0 149 8)) (nd0 152 (lf0 151 8) (lf0 152 8))) (nd0 159 (nd0 154 (lf0 153 8) (lf0 154 8)) (nd0 170 (lf0 159 24) (nd0 171 (lf0 170 4) (lf0 171 4))))) (nd0 195 (nd0 191 (nd0 190 (lf0 189 24) (lf0 190 0)) (nd0 193 (lf0 191 0) (nd0 194 (lf0 193 8) (lf0 194 24)))) (nd0 197 (nd0 196 (lf0 195 24) (lf0 196 24)) (nd0 214 (lf0 197 24) (nd0 215 (lf0 214 24) (lf0 215 24)))))))
theorem bt_ok : BtOk Tryz.prog bt := ⟨(nd0_ok (nd0_ok (nd0_ok (nd0_ok (nd0_ok (nd0_ok (lf0_ok (bt1 (by kernel_rfl))) (lf0_ok (bt1 (by kernel_rfl)))) (nd0_ok (lf0_ok (bt1 (by kernel_rfl))) (lf0_ok (bt1 (by kernel_rfl))))) (nd0_ok (nd0_ok (lf0_ok (bt1 (by kernel_rfl))) (lf0_ok (bt1 (by kernel_rfl)))) (nd0_ok (lf0_ok (bt1 (by kernel_rfl))) (nd0_ok (lf0_ok (bt1 (by kernel_rfl))) (lf0_ok (bt1 (by kernel_rfl))))))) (nd0_ok (nd0_ok (nd0_ok (lf0_ok (bt1 (by kernel_rfl))) (lf0_ok (bt1 (by kernel_rfl)))) (nd0_ok (lf0_ok (bt1 (by kernel_rfl))) (lf0_ok (bt1 (by kernel_rfl))))) (nd0_ok (nd0_ok (lf0_ok (bt1 (by kernel_rfl))) (lf0_ok (bt1 (by kernel_rfl)))) (nd0_ok (lf0_ok (bt1 (by kernel_rfl))) (nd0_ok (lf0_ok (bt1 (by kernel_rfl))) (lf0_ok (bt1 (by kernel_rfl)))))))) (nd0_ok (nd0_ok (nd0_ok (nd0_ok (lf0_ok (bt1 (by kernel_rfl))) (lf0_ok (bt1 (by kernel_rfl)))) (nd0_ok (lf0_ok (bt1 (by kernel_rfl))) (lf0_ok (bt1 (by kernel_rfl))))) (nd0_ok (nd0_ok (lf0_ok (bt1 (by kernel_rfl))) (lf0_ok (bt1 (by kernel_rfl)))) (nd0_ok (lf0_ok (bt1 (by kernel_rfl))) (nd0_ok (lf0_ok (bt1 (by kernel_rfl))) (lf0_ok (bt1 (by kernel_rfl))))))) (nd0_ok (nd0_ok (nd0_ok (lf0_ok (bt1 (by kernel_rfl))) (lf0_ok (bt1 (by kernel_rfl)))) (nd0_ok (lf0_ok (bt1 (by kernel_rfl))) (nd0_ok (lf0_ok (bt1 (by kernel_rfl))) (lf0_ok (bt1 (by kernel_rfl)))))) (nd0_ok (nd0_ok (lf0_ok (bt1 (by kernel_rfl))) (lf0_ok (bt1 (by kernel_rfl)))) (nd0_ok (lf0_ok (bt1 (by kernel_rfl))) (nd0_ok (lf0_ok (bt1 (by kernel_rfl))) (lf0_ok (bt1 (by kernel_rfl))))))))) (nd0_ok (nd0_ok (nd0_ok (nd0_ok (nd0_ok (lf0_ok (bt1 (by kernel_rfl))) (lf0_ok (bt1 (by kernel_rfl)))) (nd0_ok (lf0_ok (bt1 (by kernel_rfl))) (lf0_ok (bt1 (by kernel_rfl))))) (nd0_ok (nd0_ok (lf0_ok (bt1 (by kernel_rfl))) (lf0_ok (bt1 (by kernel_rfl)))) (nd0_ok (lf0_ok (bt1 (by kernel_rfl))) (nd0_ok (lf0_ok (bt1 (by kernel_rfl))) (lf0_ok (bt1 (by kernel_rfl))))))) (nd0_ok (nd0_ok (nd0_ok (lf0_ok (bt1 (by kernel_rfl))) (lf0_ok (bt1 (by kernel_rfl)))) (nd0_ok (lf0_ok (bt1 (by kernel_rfl))) (nd0_ok (lf0_ok (bt1 (by kernel_rfl))) (lf0_ok (bt1 (by kernel_rfl)))))) (nd0_ok (nd0_ok (lf0_ok (bt1 (by kernel_rfl))) (lf0_ok (bt1 (by kernel_rfl)))) (nd0_ok (lf0_ok (bt1 (by kernel_rfl))) (nd0_ok (lf0_ok (bt1 (by kernel_rfl))) (lf0_ok (bt1 (by kernel_rfl)))))))) (nd0_ok (nd0_ok (nd0_ok (nd0_ok (lf0_ok (bt1 (by kernel_rfl))) (lf0_ok (bt1 (by kernel_rfl)))) (nd0_ok (lf0_ok (bt1 (by kernel_rfl))) (lf0_ok (bt1 (by kernel_rfl))))) (nd0_ok (nd0_ok (lf0_ok (bt1 (by kernel_rfl))) (lf0_ok (bt1 (by kernel_rfl)))) (nd0_ok (lf0_ok (bt1 (by kernel_rfl))) (nd0_ok (lf0_ok (bt1 (by kernel_rfl))) (lf0_ok (bt1 (by kernel_rfl))))))) (nd0_ok (nd0_ok (nd0_ok (lf0_ok (bt1 (by kernel_rfl))) (lf0_ok (bt1 (by kernel_rfl)))) (nd0_ok (lf0_ok (bt1 (by kernel_rfl))) (nd0_ok (lf0_ok (bt1 (by kernel_rfl))) (lf0_ok (bt1 (by kernel_rfl)))))) (nd0_ok (nd0_ok (lf0_ok (bt1 (by kernel_rfl))) (lf0_ok (bt1 (by kernel_rfl)))) (nd0_ok (lf0_ok (bt1 (by kernel_rfl))) (nd0_ok (lf0_ok (bt1 (by kernel_rfl))) (lf0_ok (bt1 (by kernel_rfl))))))))))⟩
def st : TypeId → Option Shp := nd0 63 (nd0 38 (nd0 28 (nd0 9 (nd0 4 (lf0 3 (.int .i64)) (nd0 5 (lf0 4 .bool) (lf0 5 .byte))) (nd0 26 (nd0 22 (lf0 9 .str) (lf0 22 (.sl .byte))) (nd0 27 (lf0 26 (.int .u64)) (lf0 27 (.int .u32))))) (nd0 34 (nd0 29 (lf0 28 (.st [(.int .u64), (.int .u64), (.int .i64), (.int .i64), (.int .i64), (.int .u32)])) (nd0 30 (lf0 29 (.st [(.int .u64), (.int .u64), (.int .i64), (.int .i64), (.int .i64), (.int .u32)])) (lf0 30 (.sl (.st [(.int .i64), (.sl (.st [(.int .i64), (.int .i64), (.sl .byte), (.sl (.st [(.int .i64), (.int .i64), (.int .i64)]))])), (.st [(.int .i64), (.sl .byte)]), (.st [(.int .i64), (.sl .byte)]), (.st [(.int .i64), (.sl .byte)]), (.st [(.int .i64), (.sl .byte), (.int .i64), (.sl .byte)]), (.st [(.int .i64), (.sl (.sl .byte))]), (.sl (.st [(.int .i64), (.int .i64), (.int .i64), (.st [(.int .i64), (.int .u64), (.int .u64)]), (.st [(.int .i64), (.int .u64), (.int .u64)])])), (.sl .byte)]))))) (nd0 36 (nd0 35 (lf0 34 (.sl (.st [(.int .i64), .bool, (.sl .byte)]))) (lf0 35 (.sl (.st [(.int .i64), (.int .i64), (.sl .byte), (.sl (.st [(.int .i64), (.int .i64), (.int .i64)]))])))) (nd0 37 (lf0 36 (.st [(.int .i64), (.sl .byte)])) (lf0 37 (.st [(.int .i64), (.sl .byte)])))))) (nd0 45 (nd0 41 (nd0 39 (lf0 38 (.st [(.int .i64), (.sl .byte)])) (nd0 40 (lf0 39 (.st [(.int .i64), (.sl .byte)])) (lf0 40 (.st [(.int .i64), (.sl .byte)])))) (nd0 43 (nd0 42 (lf0 41 (.st [(.int .i64), (.sl .byte)])) (lf0 42 (.st [(.int .i64), (.sl .byte), (.int .i64), (.sl .byte)]))) (nd0 44 (lf0 43 (.st [(.int .i64), (.sl .byte), (.int .i64), (.sl .byte)])) (lf0 44 (.sl (.sl .byte)))))) (nd0 49 (nd0 47 (nd0 46 (lf0 45 (.st [(.int .i64), (.sl (.sl .byte))])) (lf0 46 (.st [(.int .i64), (.sl (.sl .byte))]))) (nd0 48 (lf0 47 (.sl (.st [(.int .i64), (.int .i64), (.int .i64), (.st [(.int .i64), (.int .u64), (.int .u64)]), (.st [(.int .i64), (.int .u64), (.int .u64)])]))) (lf0 48 (.st [(.int .i64), (.sl (.st [(.int .i64), (.int .i64), (.sl .byte), (.sl (.st [(.int .i64), (.int .i64), (.int .i64)]))])), (.st [(.int .i64), (.sl .byte)]), (.st [(.int .i64), (.sl .byte)]), (.st [(.int .i64), (.sl .byte)]), (.st [(.int .i64), (.sl .byte), (.int .i64), (.sl .byte)]), (.st [(.int .i64), (.sl (.sl .byte))]), (.sl (.st [(.int .i64), (.int .i64), (.int .i64), (.st [(.int .i64), (.int .u64), (.int .u64)]), (.st [(.int .i64), (.int .u64), (.int .u64)])])), (.sl .byte)])))) (nd0 51 (nd0 50 (lf0 49 (.st [(.int .i64), (.sl (.st [(.int .i64), (.int .i64), (.sl .byte), (.sl (.st [(.int .i64), (.int .i64), (.int .i64)]))])), (.st [(.int .i64), (.sl .byte)]), (.st [(.int .i64), (.sl .byte)]), (.st [(.int .i64), (.sl .byte)]), (.st [(.int .i64), (.sl .byte), (.int .i64), (.sl .byte)]), (.st [(.int .i64), (.sl (.sl .byte))]), (.sl (.st [(.int .i64), (.int .i64), (.int .i64), (.st [(.int .i64), (.int .u64), (.int .u64)]), (.st [(.int .i64), (.int .u64), (.int .u64)])])), (.sl .byte)])) (lf0 50 (.st [(.int .i64), .bool, (.sl .byte)]))) (nd0 52 (lf0 51 (.st [(.int .i64), .bool, (.sl .byte)])) (lf0 52 (.int .i64))))))) (nd0 137 (nd0 126 (nd0 92 (nd0 73 (lf0 63 (.sl (.int .i64))) (nd0 74 (lf0 73 (.st [(.sl .byte), (.int .i64)])) (lf0 74 (.st [(.sl .byte), (.int .i64)])))) (nd0 120 (nd0 119 (lf0 92 (.int .u64)) (lf0 119 (.st [(.st [(.int .i64), .bool, (.sl .byte)]), (.int .i64), (.sl .byte), (.int .i64)]))) (nd0 125 (lf0 120 (.st [(.st [(.int .i64), .bool, (.sl .byte)]), (.int .i64), (.sl .byte), (.int .i64)])) (lf0 125 (.st [(.sl .byte), (.int .i64), .bool]))))) (nd0 132 (nd0 130 (lf0 126 (.st [(.sl .byte), (.int .i64), .bool])) (nd0 131 (lf0 130 (.sl (.st [(.int .i64), (.int .i64), (.int .i64)]))) (lf0 131 (.st [(.int .i64), (.int .i64), (.sl .byte), (.sl (.st [(.int .i64), (.int .i64), (.int .i64)]))])))) (nd0 135 (nd0 134 (lf0 132 (.st [(.int .i64), (.int .i64), (.sl .byte), (.sl (.st [(.int .i64), (.int .i64), (.int .i64)]))])) (lf0 134 (.st [(.int .i64), (.int .i64), (.int .i64)]))) (nd0 136 (lf0 135 (.st [(.int .i64), (.int .i64), (.int .i64)])) (lf0 136 (.st [(.int .i64), (.int .u64), (.int .u64)])))))) (nd0 190 (nd0 159 (nd0 138 (lf0 137 (.st [(.int .i64), (.int .u64), (.int .u64)])) (nd0 139 (lf0 138 (.st [(.int .i64), (.int .i64), (.int .i64), (.st [(.int .i64), (.int .u64), (.int .u64)]), (.st [(.int .i64), (.int .u64), (.int .u64)])])) (lf0 139 (.st [(.int .i64), (.int .i64), (.int .i64), (.st [(.int .i64), (.int .u64), (.int .u64)]), (.st [(.int .i64), (.int .u64), (.int .u64)])])))) (nd0 171 (nd0 170 (lf0 159 (.sl (.st [(.int .i64), (.sl .byte), (.int .i64), (.sl .byte)]))) (lf0 170 (.st [.byte, .byte, .byte, .byte]))) (nd0 189 (lf0 171 (.st [.byte, .byte, .byte, .byte])) (lf0 189 (.sl (.int .u64)))))) (nd0 196 (nd0 194 (nd0 191 (lf0 190 (.st [])) (lf0 191 (.st []))) (nd0 195 (lf0 194 (.st [(.sl .byte)])) (lf0 195 (.st [(.sl .byte)])))) (nd0 214 (nd0 197 (lf0 196 (.st [(.st [(.sl .byte)])])) (lf0 197 (.st [(.st [(.sl .byte)])]))) (nd0 215 (lf0 214 (.st [(.st [(.int .i64), (.int .u64), (.int .u64)])])) (lf0 215 (.st [(.st [(.int .i64), (.int .u64), (.int .u64)])])))))))
theorem mixed_ok : Tryz.prog.follows .mixedOrders = true := by kernel_rfl
end
open Go.RowKit
section
def fnFn (az rs : List Shp) (pre : Shp.Ds az → Prop) (F : Shp.Ds az → Shp.Ds rs) : Spec := fun lo hi id args s K =>
 match decArgs s.heap s.ents az args with
 | some d => obsK d.ob (Ob (fun u => pre (d.x u)) (match lfRs (leavess rs fun _ => F (d.x ())) [] id with
   | some (vs, news) => match packR rs vs with
     | some us => freshL lo hi s.heap s.ents news = true ∧ K (tupR us) ⟨s.fr, s.n, s.heap, catE news s.ents, s.next⟩
     | none => False
   | none => False))
 | none => False
theorem obsK_mono {K K' : Prop} (h : K → K') : ∀ {l : List (Unit → Prop)}, obsK l K → obsK l K'
 | [], hk => h hk
 | _ :: _, hk => ⟨hk.1, obsK_mono h hk.2⟩
theorem fnFn_of {P : Program} {E : Env} {f : FuncId} {az rs : List Shp} {pre : Shp.Ds az → Prop} {post : Shp.Ds az → Shp.Ds rs → Prop} {F : Shp.Ds az → Shp.Ds rs} (h : SpecOk P E f (fnSpec az rs [] pre post)) (hF : ∀ x y, post x y → y = F x) : SpecOk P E f (fnFn az rs pre F) := by
 refine ⟨h.fn, fun lo hi id args s K h1 h2 hs => h.calls lo hi id args s K h1 h2 ?_⟩
 unfold fnFn at hs
 unfold fnSpec
 cases hd : decArgs s.heap s.ents az args with
 | some d =>
   rw [hd] at hs
   refine obsK_mono ?_ hs
   rintro ⟨ho, hk⟩
   refine ⟨ho, ⟨fun y hy => ?_⟩⟩
   rw [hF _ _ hy.1]
   exact hk
 | none => rw [hd] at hs; exact hs
end
section
set_option maxHeartbeats 8000000
set_option maxRecDepth 100000
def nxC_t : SpecT := lf0 12 (drSpec 74 [.int .i64] [.int .i64] [] nextPre nextPost)
def nxC : Cx := ⟨tt, qt, bt, st, nxC_t, 0, 1000000000000000, fun _ => none, false, CxE.no, []⟩
theorem nxC_si {E : Env} (h : E.ok) : SpecsOk Tryz.prog E (CxE.no) nxC_t (fun _ => none) := ⟨(lf0_ok (.inl (next_sp h))), noI_ok _ _ _⟩
theorem nxC_x {E : Env} (h : E.ok) : CxEOk Tryz.prog E (CxE.no) := CxE.no_ok _ _
theorem nxC_cx (E : Env) (h : E.ok) (h1 : E.lo = 0) (h2 : E.hi = 1000000000000000) : Cx.ok nxC Tryz.prog E := ⟨tt_ok, qt_ok, bt_ok, nxC_si h, h, h1, h2, mixed_ok, nxC_x h⟩
theorem u64_in (x : Int) : 0 ≤ IntKind.u64.wrap x ∧ IntKind.u64.wrap x ≤ 18446744073709551615 := by rw [IntKind.wrap_u64]; omega
theorem bits_u64 (op : BinOp) (x y : Int) : 0 ≤ bits op .u64 x y ∧ bits op .u64 x y ≤ 18446744073709551615 := by unfold bits; exact u64_in _
theorem word_fn : hasFn Tryz.prog 42 := ⟨_, Tryz.func42, by rfl, by rfl⟩
abbrev wordPost : Shp.Ds [] → Shp.Ds [.int .u64] → Prop := fun _ y => 0 ≤ y.1 ∧ y.1 ≤ 18446744073709551615
theorem word_sp {E : Env} (hE : E.ok) : SpecOk Tryz.prog E 42 (drSpec 74 [] [.int .u64] [] (fun _ => True) wordPost) := by
 refine spec_of_vcD (C := nxC) word_fn Tryz.func42 (by kernel_rfl) nxC_cx (fun x hl hx => ?_) hE
 obtain ⟨⟩ := x
 cbv
 (repeat' (first|((with_reducible apply And.intro <;> intro h) <;> (first|(with_reducible first|exact (tf h ‹_›).elim|exact (tf ‹_› h).elim)|cbv))|((with_reducible first|apply Cb.mk|apply Lz.mk|apply JoinT.left|(apply AllT.mk;intro x hx));cbv)|((with_reducible refine Ob.mk (fun _ => ?_) ?_);rotate_left 1)|(with_reducible first|refine Mg.mk (Exists.intro ?_ (And.intro ?_ ?_))|rfl|apply Fin.mk|exact True.intro|apply And.intro)))
 all_goals first
  | (((try dsimp only [Shp.D, Shp.Ds, Shp.dflt] at *); simp only [vla, vem, veq, vln] at *; (try dsimp only [Shp.D, Shp.Ds, Shp.dflt, Shp.dflts] at *)) <;> (try simp only [Shp.lims, Shp.lim, IntKind.wrap_u64, IntKind.wrap_u8] at *) <;> omega)
  | skip
 with_reducible refine loop_hv [] (rangeN 18 11) [] [] (fun z b t y => 0 ≤ z 3 ∧ z 3 ≤ 18446744073709551615 ∧ 0 ≤ z 4 ∧ z 4 ≤ 8) (fun z b t y => (8 - z 4).toNat) (by cbv) (by cbv) ?_ ?_ (fun z1 b1 t1 u1 y1 R1 hP1 hR1 => ?_)
 ·exact EndOk.au
 ·intro zq bq tq yq hUq
  have q3 := hUq.z 3
  have q4 := hUq.z 4
  cbv at q3 q4
  replace q3 := q3.eq
  replace q4 := q4.eq
  simp only [atI, atB, atT, atY, convL_self, vem, veq, ne_eq, cmpI, arI, dvI, shI, SV.den] at q3 q4
  clear hUq
  try dsimp only [Shp.D, Shp.Ds, Shp.dflt] at *
  try simp only [vla, vem, veq] at *
  omega
 cbv
 (repeat' (first|((with_reducible apply And.intro <;> intro h) <;> (first|(with_reducible first|exact (tf h ‹_›).elim|exact (tf ‹_› h).elim)|cbv))|((with_reducible first|apply Cb.mk|apply Lz.mk|apply JoinT.left|(apply AllT.mk;intro x hx));cbv)|((with_reducible refine Ob.mk (fun _ => ?_) ?_);rotate_left 1)|(with_reducible first|refine Mg.mk (Exists.intro ?_ (And.intro ?_ ?_))|rfl|apply Fin.mk|exact True.intro|apply And.intro)))
 all_goals first | (with_reducible show Goes _ _ _ _; skip) | (clear hR1)
 ·with_reducible refine hR1 _ ?_ (fun zq bq tq yq hUq => ?_)
  ·exact EndOk.au
  have q3 := hUq.z 3
  have q4 := hUq.z 4
  cbv at q3 q4
  replace q3 := q3.eq
  replace q4 := q4.eq
  simp only [atI, atB, atT, atY, convL_self, vem, veq, ne_eq, cmpI, arI, dvI, shI, SV.den] at q3 q4
  clear hUq hR1
  try dsimp only [Shp.D, Shp.Ds, Shp.dflt] at *
  try simp only [vem, veq, ne_eq, cmpI, arI, dvI, shI, SV.den, elemAt, convL_self] at *
  try dsimp only [Shp.D, Shp.Ds, Shp.dflt, Shp.dflts] at *
  have hb := bits_u64 .or (IntKind.u64.wrap (z1 3 * 2 ^ min (Int.toNat 8) IntKind.u64.bits)) (IntKind.u64.wrap x.fst)
  rw [q3] at hb
  omega
 all_goals first
  | (((try dsimp only [Shp.D, Shp.Ds, Shp.dflt] at *); simp only [vla, vem, veq, vln] at *; (try dsimp only [Shp.D, Shp.Ds, Shp.dflt, Shp.dflts] at *)) <;> (try simp only [Shp.lims, Shp.lim, IntKind.wrap_u64, IntKind.wrap_u8] at *) <;> omega)
  | skip
theorem bytes_fn : hasFn Tryz.prog 45 := ⟨_, Tryz.func45, by rfl, by rfl⟩
theorem bytes_sp {E : Env} (hE : E.ok) : SpecOk Tryz.prog E 45 (drSpec 74 [.int .i64] [.sl .byte] [.own 5] (fun x => x.1 ≤ 1048576) (fun x y => (y.1.length : Int) = max 0 x.1)) := by
 refine spec_of_vcD (C := nxC) bytes_fn Tryz.func45 (by kernel_rfl) nxC_cx (fun x hl hx => ?_) hE
 obtain ⟨n, u⟩ := x
 simp only [Shp.lims, Shp.lim] at hl hx
 cbv
 (repeat' (first|((with_reducible apply And.intro <;> intro h) <;> (first|(with_reducible first|exact (tf h ‹_›).elim|exact (tf ‹_› h).elim)|cbv))|((with_reducible first|apply Cb.mk|apply Lz.mk|apply JoinT.left|(apply AllT.mk;intro x hx));cbv)|((with_reducible refine Ob.mk (fun _ => ?_) ?_);rotate_left 1)|(with_reducible first|refine Mg.mk (Exists.intro ?_ (And.intro ?_ ?_))|rfl|apply Fin.mk|exact True.intro|apply And.intro)))
 all_goals first
  | (((try dsimp only [Shp.D, Shp.Ds, Shp.dflt] at *); simp only [vla, vem, veq, vln] at *; (try dsimp only [Shp.D, Shp.Ds, Shp.dflt, Shp.dflts] at *)) <;> (try simp only [Shp.lims, Shp.lim, IntKind.wrap_u64, IntKind.wrap_u8] at *) <;> omega)
  | skip
 with_reducible refine loop_hv [(5, 900, 5, .byte)] (rangeN 7 14) [] [900] (fun z b t y => 0 ≤ z 6 ∧ (y 900 .byte).length = z 6 ∧ (z 6 ≤ n ∨ z 6 = 0)) (fun z b t y => (n - z 6).toNat) (by cbv) (by cbv) ?_ ?_ (fun z1 b1 t1 u1 y1 R1 hP1 hR1 => ?_)
 ·exact EndOk.au
 ·intro zq bq tq yq hUq
  have q6 := hUq.z 6
  have qy900 := hUq.y 900 (.byte)
  cbv at q6 qy900
  replace q6 := q6.eq
  replace qy900 := qy900.eq
  simp only [atI, atB, atT, atY, convL_self, vem, veq, ne_eq, cmpI, arI, dvI, shI, SV.den] at q6 qy900
  clear hUq
  try dsimp only [Shp.D, Shp.Ds, Shp.dflt] at *
  try simp only [vla, vem, veq] at *
  rw [← qy900, ← q6]
  simp
 cbv
 (repeat' (first|((with_reducible apply And.intro <;> intro h) <;> (first|(with_reducible first|exact (tf h ‹_›).elim|exact (tf ‹_› h).elim)|cbv))|((with_reducible first|apply Cb.mk|apply Lz.mk|apply JoinT.left|(apply AllT.mk;intro x hx));cbv)|((with_reducible refine Ob.mk (fun _ => ?_) ?_);rotate_left 1)|(with_reducible first|refine Mg.mk (Exists.intro ?_ (And.intro ?_ ?_))|rfl|apply Fin.mk|exact True.intro|apply And.intro)))
 all_goals first | (with_reducible show Goes _ _ _ _; skip) | (clear hR1)
 ·with_reducible refine hR1 _ ?_ (fun zq bq tq yq hUq => ?_)
  ·exact EndOk.au
  have q6 := hUq.z 6
  have qy900 := hUq.y 900 (.byte)
  cbv at q6 qy900
  replace q6 := q6.eq
  replace qy900 := qy900.eq
  simp only [atI, atB, atT, atY, convL_self, vem, veq, ne_eq, cmpI, arI, dvI, shI, SV.den] at q6 qy900
  clear hUq hR1
  try dsimp only [Shp.D, Shp.Ds, Shp.dflt] at *
  try simp only [vem, veq, ne_eq, cmpI, arI, dvI, shI, SV.den, elemAt, convL_self] at *
  try dsimp only [Shp.D, Shp.Ds, Shp.dflt, Shp.dflts] at *
  rw [← qy900]
  simp only [List.length_append, List.length_cons, List.length_nil]
  omega
 all_goals first
  | (((try dsimp only [Shp.D, Shp.Ds, Shp.dflt] at *); simp only [vla, vem, veq, vln] at *; (try dsimp only [Shp.D, Shp.Ds, Shp.dflt, Shp.dflts] at *)) <;> (try simp only [Shp.lims, Shp.lim, IntKind.wrap_u64, IntKind.wrap_u8] at *) <;> omega)
  | skip
end
end Go.Proofs.YtkifmppmfkpfbaaGreat.V
namespace Go.Proofs.YtkifmppmfkpfbaaGreat
open Go.RowKit
section
theorem bv_parts (X : BitVec 64) (k : Nat) (hk : k < 64) :
    (X &&& ~~~BitVec.twoPow 64 k).toNat + 2 ^ k * (X.toNat / 2 ^ k % 2) = X.toNat ∧ (X ||| BitVec.twoPow 64 k).toNat = (X &&& ~~~BitVec.twoPow 64 k).toNat + 2 ^ k := by
 have hp : (BitVec.twoPow 64 k).toNat = 2 ^ k := by
  rw [BitVec.toNat_twoPow]; exact Nat.mod_eq_of_lt (Nat.pow_lt_pow_right (by decide) hk)
 have hc : (X &&& ~~~BitVec.twoPow 64 k) &&& BitVec.twoPow 64 k = 0#64 := by
  rw [BitVec.and_assoc, BitVec.not_and_self]; simp
 have hd : (X &&& ~~~BitVec.twoPow 64 k) &&& (X &&& BitVec.twoPow 64 k) = 0#64 := by
  rw [BitVec.and_comm X (BitVec.twoPow 64 k), ← BitVec.and_assoc, hc]; simp
 have e1 : X = (X &&& ~~~BitVec.twoPow 64 k) ||| (X &&& BitVec.twoPow 64 k) := by
  ext i hi; simp
  cases X[i] <;> cases (decide (i = k)) <;> rfl
 have e2 : X ||| BitVec.twoPow 64 k = (X &&& ~~~BitVec.twoPow 64 k) ||| BitVec.twoPow 64 k := by
  ext i hi; simp
  cases X[i] <;> cases (decide (i = k)) <;> rfl
 have n1 : X.toNat = (X &&& ~~~BitVec.twoPow 64 k).toNat + (X &&& BitVec.twoPow 64 k).toNat := by
  conv => lhs; rw [e1]
  rw [← BitVec.add_eq_or_of_and_eq_zero _ _ hd, BitVec.toNat_add_of_and_eq_zero hd]
 have n2 : (X ||| BitVec.twoPow 64 k).toNat = (X &&& ~~~BitVec.twoPow 64 k).toNat + 2 ^ k := by
  rw [e2, ← BitVec.add_eq_or_of_and_eq_zero _ _ hc, BitVec.toNat_add_of_and_eq_zero hc, hp]
 have n3 : (X &&& BitVec.twoPow 64 k).toNat = 2 ^ k * (X.toNat / 2 ^ k % 2) := by
  rw [BitVec.and_twoPow]
  show (if X.toNat.testBit k = true then _ else _ : BitVec 64).toNat = _
  rw [Nat.testBit_eq_decide_div_mod_eq]
  by_cases h : X.toNat / 2 ^ k % 2 = 1
  ·rw [if_pos (by simpa using h), hp, h, Nat.mul_one]
  ·rw [if_neg (by simpa using h)]
   have : X.toNat / 2 ^ k % 2 = 0 := by omega
   rw [this]; rfl
 exact ⟨by rw [← n3]; exact n1.symm, n2⟩
def cl (x m t : Nat) : Nat := 2 ^ m * (x / 2 ^ m) + x % 2 ^ t
def st (x m t : Nat) : Nat := 2 ^ m * (x / 2 ^ m) + (2 ^ m - 2 ^ t) + x % 2 ^ t
theorem mod_step (x k : Nat) : x % 2 ^ (k + 1) = x % 2 ^ k + 2 ^ k * (x / 2 ^ k % 2) := by rw [Nat.pow_succ, Nat.mod_mul]
theorem cl_full (x m : Nat) : cl x m m = x := Nat.div_add_mod x (2 ^ m)
theorem st_full (x m : Nat) : st x m m = x := by unfold st; rw [Nat.sub_self, Nat.add_zero]; exact Nat.div_add_mod x (2 ^ m)
theorem cl_lt (x m t : Nat) (h : t ≤ m) : cl x m t ≤ x := by
 have h0 := Nat.div_add_mod x (2 ^ m)
 have h1 : x % 2 ^ t ≤ x % 2 ^ m := by
  rw [← Nat.mod_mod_of_dvd x (Nat.pow_dvd_pow 2 h)]; exact Nat.mod_le _ _
 unfold cl; omega
theorem st_le (x m t : Nat) (h : t ≤ m) : x ≤ st x m t ∧ st x m t < 2 ^ m * (x / 2 ^ m) + 2 ^ m := by
 have h0 := Nat.div_add_mod x (2 ^ m)
 have hp : 2 ^ t ≤ 2 ^ m := Nat.pow_le_pow_right (by decide) h
 have ht : x % 2 ^ t < 2 ^ t := Nat.mod_lt _ (Nat.pow_pos (by decide))
 have h2 : x % 2 ^ m = x % 2 ^ t + 2 ^ t * (x % 2 ^ m / 2 ^ t) := by
  have h3 := Nat.div_add_mod (x % 2 ^ m) (2 ^ t)
  rw [Nat.mod_mod_of_dvd x (Nat.pow_dvd_pow 2 h)] at h3
  omega
 have h4 : 2 ^ t * (x % 2 ^ m / 2 ^ t) + 2 ^ t ≤ 2 ^ m := by
  have hd : x % 2 ^ m / 2 ^ t < 2 ^ (m - t) := by
   rw [Nat.div_lt_iff_lt_mul (Nat.pow_pos (by decide)), ← Nat.pow_add, show m - t + t = m by omega]
   exact Nat.mod_lt _ (Nat.pow_pos (by decide))
  have he : 2 ^ m = 2 ^ t * 2 ^ (m - t) := by rw [← Nat.pow_add, show t + (m - t) = m by omega]
  generalize x % 2 ^ m / 2 ^ t = q at hd ⊢
  rw [he, ← Nat.mul_succ]
  exact Nat.mul_le_mul_left _ hd
 unfold st; omega
theorem bit_of (k V b r : Nat) (hr : r < 2 ^ k) (hb : b < 2) : (2 ^ k * (2 * V + b) + r) / 2 ^ k % 2 = b := by
 rw [Nat.mul_add_div (Nat.pow_pos (by decide)), Nat.div_eq_of_lt hr]; omega
theorem cl_step (x m k : Nat) (h : k < m) (h64 : m ≤ 64) (hx : x < 18446744073709551616) :
    bits .andNot .u64 (cl x m (k + 1) : Int) (2 ^ k : Nat) = (cl x m k : Int) := by
 have hlt : cl x m (k + 1) < 2 ^ 64 := by have := cl_lt x m (k + 1) h; omega
 have h2 := bv_parts (BitVec.ofNat 64 (cl x m (k + 1))) k (by omega)
 have hp : (BitVec.ofNat 64 (2 ^ k)) = BitVec.twoPow 64 k := by
  apply BitVec.eq_of_toNat_eq; rw [BitVec.toNat_twoPow, BitVec.toNat_ofNat]
 show IntKind.u64.wrap ((BitVec.ofInt 64 (cl x m (k + 1) : Int) &&& ~~~(BitVec.ofInt 64 ((2 ^ k : Nat) : Int))).toNat : Int) = _
 rw [BitVec.ofInt_natCast, BitVec.ofInt_natCast, hp]
 rw [BitVec.toNat_ofNat, Nat.mod_eq_of_lt hlt] at h2
 obtain ⟨h2, _⟩ := h2
 have hr : x % 2 ^ k < 2 ^ k := Nat.mod_lt _ (Nat.pow_pos (by decide))
 have hb : x / 2 ^ k % 2 < 2 := Nat.mod_lt _ (by decide)
 have e1 : 2 ^ m = 2 ^ k * (2 * 2 ^ (m - (k + 1))) := by rw [← Nat.mul_assoc, ← Nat.pow_succ, ← Nat.pow_add]; congr 1; omega
 have e2 : cl x m (k + 1) = 2 ^ k * (2 * (2 ^ (m - (k + 1)) * (x / 2 ^ m)) + x / 2 ^ k % 2) + x % 2 ^ k := by
  unfold cl
  rw [mod_step, Nat.mul_add]
  conv => lhs; lhs; lhs; rw [e1]
  rw [Nat.mul_assoc, Nat.mul_assoc]; omega
 have e3 : cl x m (k + 1) / 2 ^ k % 2 = x / 2 ^ k % 2 := by rw [e2]; exact bit_of _ _ _ _ hr hb
 rw [e3] at h2
 have e4 : cl x m (k + 1) = cl x m k + 2 ^ k * (x / 2 ^ k % 2) := by unfold cl; rw [mod_step]; omega
 rw [IntKind.wrap_u64]
 omega
theorem st_step (x m k : Nat) (h : k < m) (h64 : m ≤ 64) (hx : x < 18446744073709551616) :
    bits .or .u64 (st x m (k + 1) : Int) (2 ^ k : Nat) = (st x m k : Int) := by
 have h63 : 2 ^ m * (x / 2 ^ m) + 2 ^ m ≤ 2 ^ 64 := by
  have hd : x / 2 ^ m < 2 ^ (64 - m) := by
   rw [Nat.div_lt_iff_lt_mul (Nat.pow_pos (by decide)), ← Nat.pow_add, show 64 - m + m = 64 by omega]; omega
  have he : 2 ^ 64 = 2 ^ m * 2 ^ (64 - m) := by rw [← Nat.pow_add, show m + (64 - m) = 64 by omega]
  rw [he, ← Nat.mul_succ]
  exact Nat.mul_le_mul_left _ hd
 have hlt : st x m (k + 1) < 2 ^ 64 := by have := (st_le x m (k + 1) h).2; omega
 have h2 := bv_parts (BitVec.ofNat 64 (st x m (k + 1))) k (by omega)
 have hp : (BitVec.ofNat 64 (2 ^ k)) = BitVec.twoPow 64 k := by
  apply BitVec.eq_of_toNat_eq; rw [BitVec.toNat_twoPow, BitVec.toNat_ofNat]
 show IntKind.u64.wrap ((BitVec.ofInt 64 (st x m (k + 1) : Int) ||| (BitVec.ofInt 64 ((2 ^ k : Nat) : Int))).toNat : Int) = _
 rw [BitVec.ofInt_natCast, BitVec.ofInt_natCast, hp]
 rw [BitVec.toNat_ofNat, Nat.mod_eq_of_lt hlt] at h2
 obtain ⟨h2, h3⟩ := h2
 have hr : x % 2 ^ k < 2 ^ k := Nat.mod_lt _ (Nat.pow_pos (by decide))
 have hb : x / 2 ^ k % 2 < 2 := Nat.mod_lt _ (by decide)
 have e1 : 2 ^ m = 2 ^ k * (2 * 2 ^ (m - (k + 1))) := by rw [← Nat.mul_assoc, ← Nat.pow_succ, ← Nat.pow_add]; congr 1; omega
 have e5 : 2 ^ (k + 1) = 2 ^ k * 2 := Nat.pow_succ 2 k
 have hpos : 0 < 2 ^ (m - (k + 1)) := Nat.pow_pos (by decide)
 have e6 : 2 ^ m - 2 ^ (k + 1) = 2 ^ k * (2 * (2 ^ (m - (k + 1)) - 1)) := by
  rw [e1, e5, Nat.mul_sub 2, Nat.mul_sub (2 ^ k), Nat.mul_one]
 have e2 : st x m (k + 1) = 2 ^ k * (2 * (2 ^ (m - (k + 1)) * (x / 2 ^ m) + (2 ^ (m - (k + 1)) - 1)) + x / 2 ^ k % 2) + x % 2 ^ k := by
  unfold st
  rw [mod_step, e6, Nat.mul_add, Nat.mul_add 2, Nat.mul_add (2 ^ k)]
  conv => lhs; lhs; lhs; lhs; rw [e1]
  rw [Nat.mul_assoc, Nat.mul_assoc]; omega
 have e3 : st x m (k + 1) / 2 ^ k % 2 = x / 2 ^ k % 2 := by rw [e2]; exact bit_of _ _ _ _ hr hb
 rw [e3] at h2
 have hle : 2 ^ (k + 1) ≤ 2 ^ m := Nat.pow_le_pow_right (by decide) h
 have e4 : st x m (k + 1) + 2 ^ k = st x m k + 2 ^ k * (x / 2 ^ k % 2) := by unfold st; rw [mod_step]; omega
 have hl2 : st x m k < 2 ^ 64 := by have := (st_le x m k (by omega)).2; omega
 rw [IntKind.wrap_u64]
 omega
end
section
structure Adr where
 fam : Int
 hi : Int
 lo : Int
structure Sel where
 pr : Int
 pl : Int
 ph : Int
 lo : Adr
 hi : Adr
def Adr.zero : Adr := ⟨0, 0, 0⟩
def Sel.zero : Sel := ⟨0, 0, 0, Adr.zero, Adr.zero⟩
structure Adr.ok (a : Adr) : Prop where
 f0 : -9223372036854775808 ≤ a.fam
 f1 : a.fam ≤ 9223372036854775807
 h0 : 0 ≤ a.hi
 h1 : a.hi ≤ 18446744073709551615
 l0 : 0 ≤ a.lo
 l1 : a.lo ≤ 18446744073709551615
theorem Adr.ext' {a b : Adr} (h1 : a.fam = b.fam) (h2 : a.hi = b.hi) (h3 : a.lo = b.lo) : a = b := by
 cases a; cases b; simp_all
theorem Sel.ext' {a b : Sel} (h1 : a.pr = b.pr) (h2 : a.pl = b.pl) (h3 : a.ph = b.ph) (h4 : a.lo = b.lo) (h5 : a.hi = b.hi) : a = b := by
 cases a; cases b; simp_all
def key (a : Adr) : Int := a.fam * 340282366920938463463374607431768211456 + a.hi * 18446744073709551616 + a.lo
def less (a b : Adr) : Bool := if a.fam ≠ b.fam then decide (a.fam < b.fam) else if a.hi ≠ b.hi then decide (a.hi < b.hi) else decide (a.lo < b.lo)
theorem key_inj {a b : Adr} (ha : a.ok) (hb : b.ok) (h : key a = key b) : a = b := by
 obtain ⟨_, _, a1, a2, a3, a4⟩ := ha
 obtain ⟨_, _, b1, b2, b3, b4⟩ := hb
 unfold key at h
 exact Adr.ext' (by omega) (by omega) (by omega)
def opq (s : Sel) : Bool := s.pl == 65535 && s.ph == 0
def alls (s : Sel) : Bool := s.pl == 0 && s.ph == 65535
structure Sel.ok (s : Sel) : Prop where
 lo : s.lo.ok
 hi : s.hi.ok
 fam : s.lo.fam = s.hi.fam
 le : key s.lo ≤ key s.hi
 p0 : 0 ≤ s.pr
 p1 : s.pr ≤ 255
 ports : (s.pl = 65535 ∧ s.ph = 0) ∨ (0 ≤ s.pl ∧ s.pl ≤ s.ph ∧ s.ph ≤ 65535)
def qlo (s : Sel) : Int := if opq s then -1 else if alls s then -1 else s.pl
def qhi (s : Sel) : Int := if opq s then -1 else s.ph
theorem ports_of (s : Sel) (h : s.ok) : (s.pl = 65535 ∧ s.ph = 0 ∧ opq s = true ∧ alls s = false ∧ qlo s = -1 ∧ qhi s = -1) ∨
    (s.pl = 0 ∧ s.ph = 65535 ∧ opq s = false ∧ alls s = true ∧ qlo s = -1 ∧ qhi s = 65535) ∨
    (0 ≤ s.pl ∧ s.pl ≤ s.ph ∧ s.ph ≤ 65535 ∧ ¬ (s.pl = 0 ∧ s.ph = 65535) ∧ opq s = false ∧ alls s = false ∧ qlo s = s.pl ∧ qhi s = s.ph) := by
 rcases h.ports with ⟨h1, h2⟩ | ⟨h1, h2, h3⟩
 ·left; simp [opq, alls, qlo, qhi, h1, h2]
 ·right
  have ho : opq s = false := by simp [opq]; omega
  by_cases ha : s.pl = 0 ∧ s.ph = 65535
  ·left; obtain ⟨e1, e2⟩ := ha; simp [opq, alls, qlo, qhi, e1, e2]
  ·right
   have hal : alls s = false := by simp [alls]; omega
   exact ⟨h1, h2, h3, ha, ho, hal, by simp [qlo, ho, hal], by simp [qhi, ho]⟩
def may (a b : Sel) : Prop := a.lo.fam = b.lo.fam ∧ (a.pr = b.pr ∨ a.pr = 0 ∨ b.pr = 0) ∧ max (key a.lo) (key b.lo) ≤ min (key a.hi) (key b.hi) ∧ max (qlo a) (qlo b) ≤ min (qhi a) (qhi b)
theorem sel_inj {a b : Sel} (ha : a.ok) (hb : b.ok) (h0 : a.pr = b.pr) (h1 : key a.lo = key b.lo) (h2 : key a.hi = key b.hi) (h3 : qlo a = qlo b) (h4 : qhi a = qhi b) : a = b := by
 have hpl : a.pl = b.pl ∧ a.ph = b.ph := by
  rcases ports_of a ha with h | h | h <;> rcases ports_of b hb with h' | h' | h' <;> omega
 exact Sel.ext' h0 hpl.1 hpl.2 (key_inj ha.lo hb.lo h1) (key_inj ha.hi hb.hi h2)
structure Mt3 (a b d u : Sel) : Prop where
 ok : u.ok
 pr : u.pr = max (max a.pr b.pr) d.pr
 klo : key u.lo = max (max (key a.lo) (key b.lo)) (key d.lo)
 khi : key u.hi = min (min (key a.hi) (key b.hi)) (key d.hi)
 qlo : qlo u = max (max (qlo a) (qlo b)) (qlo d)
 qhi : qhi u = min (min (qhi a) (qhi b)) (qhi d)
theorem Mt3.eq {a b d u u' : Sel} (h : Mt3 a b d u) (h' : Mt3 a b d u') : u = u' :=
 sel_inj h.ok h'.ok (by rw [h.pr, h'.pr]) (by rw [h.klo, h'.klo]) (by rw [h.khi, h'.khi]) (by rw [h.qlo, h'.qlo]) (by rw [h.qhi, h'.qhi])
def has (s : Sel) (a : Adr) (pr port : Int) : Bool :=
 if a.fam ≠ s.lo.fam then false else if less a s.lo then false else if less s.hi a then false else if s.pr ≠ 0 ∧ s.pr ≠ pr then false
 else if port = -1 then opq s || alls s else decide (s.pl ≤ port ∧ port ≤ s.ph)
def valid (a : Adr) : Bool := decide (a.fam = 6) || (decide (a.fam = 4) && decide (a.hi = 0) && decide (a.lo < 4294967296))
def chkSel (s : Sel) : Int :=
 if !valid s.lo || !valid s.hi || decide (s.lo.fam ≠ s.hi.fam) then 15
 else if less s.hi s.lo || decide (s.pr < 0) || decide (255 < s.pr) || (!opq s && (decide (s.pl < 0) || decide (65535 < s.ph) || decide (s.ph < s.pl))) then 5
 else 0
structure Sel.good (s : Sel) : Prop where
 toOk : s.ok
 vlo : valid s.lo = true
 vhi : valid s.hi = true
theorem Sel.good.lo {s : Sel} (h : s.good) : s.lo.ok := h.toOk.lo
theorem Sel.good.hi {s : Sel} (h : s.good) : s.hi.ok := h.toOk.hi
theorem Sel.good.fam {s : Sel} (h : s.good) : s.lo.fam = s.hi.fam := h.toOk.fam
theorem Sel.good.le {s : Sel} (h : s.good) : key s.lo ≤ key s.hi := h.toOk.le
end
end Go.Proofs.YtkifmppmfkpfbaaGreat
