import Derived.Test.YtbdfijdianaghaaProg
import Derived.Test.YtbdfijdianaghaaVe
namespace Go.Proofs.Ytbdfijdianaghaa.V
def ti1 : TI := ⟨.other, 1, [.val .nilFunc]⟩
theorem tt1 : TIOk Try.prog 1 ti1 := ⟨by kernel_rfl, by kernel_rfl, fun ρ => by kernel_rfl, by kernel_rfl⟩
def ti2 : TI := ⟨.int .i64, 1, [.int .i64 (.c 0)]⟩
theorem tt2 : TIOk Try.prog 2 ti2 := ⟨by kernel_rfl, by kernel_rfl, fun ρ => by kernel_rfl, by kernel_rfl⟩
def ti3 : TI := ⟨.int .i64, 1, [.int .i64 (.c 0)]⟩
theorem tt3 : TIOk Try.prog 3 ti3 := ⟨by kernel_rfl, by kernel_rfl, fun ρ => by kernel_rfl, by kernel_rfl⟩
def ti4 : TI := ⟨.bool, 1, [.bool (.c false)]⟩
theorem tt4 : TIOk Try.prog 4 ti4 := ⟨by kernel_rfl, by kernel_rfl, fun ρ => by kernel_rfl, by kernel_rfl⟩
def ti5 : TI := ⟨.int .u8, 1, [.int .u8 (.c 0)]⟩
theorem tt5 : TIOk Try.prog 5 ti5 := ⟨by kernel_rfl, by kernel_rfl, fun ρ => by kernel_rfl, by kernel_rfl⟩
def ti6 : TI := ⟨.int .u8, 1, [.int .u8 (.c 0)]⟩
theorem tt6 : TIOk Try.prog 6 ti6 := ⟨by kernel_rfl, by kernel_rfl, fun ρ => by kernel_rfl, by kernel_rfl⟩
def ti7 : TI := ⟨.struct [(0, 2), (1, 3), (2, 4), (3, 6)], 4, [.int .i64 (.c 0), .int .i64 (.c 0), .bool (.c false), .int .u8 (.c 0)]⟩
theorem tt7 : TIOk Try.prog 7 ti7 := ⟨by kernel_rfl, by kernel_rfl, fun ρ => by kernel_rfl, by kernel_rfl⟩
def ti8 : TI := ⟨.struct [(0, 2), (1, 3), (2, 4), (3, 6)], 4, [.int .i64 (.c 0), .int .i64 (.c 0), .bool (.c false), .int .u8 (.c 0)]⟩
theorem tt8 : TIOk Try.prog 8 ti8 := ⟨by kernel_rfl, by kernel_rfl, fun ρ => by kernel_rfl, by kernel_rfl⟩
def ti9 : TI := ⟨.string, 1, [.str (fun _ => ⟨#[]⟩)]⟩
theorem tt9 : TIOk Try.prog 9 ti9 := ⟨by kernel_rfl, by kernel_rfl, fun ρ => by kernel_rfl, by kernel_rfl⟩
def ti10 : TI := ⟨.string, 1, [.str (fun _ => ⟨#[]⟩)]⟩
theorem tt10 : TIOk Try.prog 10 ti10 := ⟨by kernel_rfl, by kernel_rfl, fun ρ => by kernel_rfl, by kernel_rfl⟩
def ti11 : TI := ⟨.string, 1, [.str (fun _ => ⟨#[]⟩)]⟩
theorem tt11 : TIOk Try.prog 11 ti11 := ⟨by kernel_rfl, by kernel_rfl, fun ρ => by kernel_rfl, by kernel_rfl⟩
def ti12 : TI := ⟨.int .u64, 1, [.int .u64 (.c 0)]⟩
theorem tt12 : TIOk Try.prog 12 ti12 := ⟨by kernel_rfl, by kernel_rfl, fun ρ => by kernel_rfl, by kernel_rfl⟩
def ti13 : TI := ⟨.struct [(0, 9), (1, 12)], 2, [.str (fun _ => ⟨#[]⟩), .int .u64 (.c 0)]⟩
theorem tt13 : TIOk Try.prog 13 ti13 := ⟨by kernel_rfl, by kernel_rfl, fun ρ => by kernel_rfl, by kernel_rfl⟩
def ti14 : TI := ⟨.struct [(0, 9), (1, 12)], 2, [.str (fun _ => ⟨#[]⟩), .int .u64 (.c 0)]⟩
theorem tt14 : TIOk Try.prog 14 ti14 := ⟨by kernel_rfl, by kernel_rfl, fun ρ => by kernel_rfl, by kernel_rfl⟩
def ti15 : TI := ⟨.pointer 168, 1, [.val (.pointer none)]⟩
theorem tt15 : TIOk Try.prog 15 ti15 := ⟨by kernel_rfl, by kernel_rfl, fun ρ => by kernel_rfl, by kernel_rfl⟩
def ti16 : TI := ⟨.pointer 171, 1, [.val (.pointer none)]⟩
theorem tt16 : TIOk Try.prog 16 ti16 := ⟨by kernel_rfl, by kernel_rfl, fun ρ => by kernel_rfl, by kernel_rfl⟩
def ti17 : TI := ⟨.pointer 180, 1, [.val (.pointer none)]⟩
theorem tt17 : TIOk Try.prog 17 ti17 := ⟨by kernel_rfl, by kernel_rfl, fun ρ => by kernel_rfl, by kernel_rfl⟩
def ti18 : TI := ⟨.struct [(0, 17)], 1, [.val (.pointer none)]⟩
theorem tt18 : TIOk Try.prog 18 ti18 := ⟨by kernel_rfl, by kernel_rfl, fun ρ => by kernel_rfl, by kernel_rfl⟩
def ti19 : TI := ⟨.struct [(0, 17)], 1, [.val (.pointer none)]⟩
theorem tt19 : TIOk Try.prog 19 ti19 := ⟨by kernel_rfl, by kernel_rfl, fun ρ => by kernel_rfl, by kernel_rfl⟩
def ti20 : TI := ⟨.other, 1, [.val .nilIface]⟩
theorem tt20 : TIOk Try.prog 20 ti20 := ⟨by kernel_rfl, by kernel_rfl, fun ρ => by kernel_rfl, by kernel_rfl⟩
def ti21 : TI := ⟨.int .i32, 1, [.int .i32 (.c 0)]⟩
theorem tt21 : TIOk Try.prog 21 ti21 := ⟨by kernel_rfl, by kernel_rfl, fun ρ => by kernel_rfl, by kernel_rfl⟩
def ti22 : TI := ⟨.slice 5, 1, [.val (.slice none 0 0)]⟩
theorem tt22 : TIOk Try.prog 22 ti22 := ⟨by kernel_rfl, by kernel_rfl, fun ρ => by kernel_rfl, by kernel_rfl⟩
def ti23 : TI := ⟨.other, 1, [.val .nilFunc]⟩
theorem tt23 : TIOk Try.prog 23 ti23 := ⟨by kernel_rfl, by kernel_rfl, fun ρ => by kernel_rfl, by kernel_rfl⟩
def ti24 : TI := ⟨.pointer 63, 1, [.val (.pointer none)]⟩
theorem tt24 : TIOk Try.prog 24 ti24 := ⟨by kernel_rfl, by kernel_rfl, fun ρ => by kernel_rfl, by kernel_rfl⟩
def ti25 : TI := ⟨.other, 1, [.val .nilFunc]⟩
theorem tt25 : TIOk Try.prog 25 ti25 := ⟨by kernel_rfl, by kernel_rfl, fun ρ => by kernel_rfl, by kernel_rfl⟩
def ti26 : TI := ⟨.int .u64, 1, [.int .u64 (.c 0)]⟩
theorem tt26 : TIOk Try.prog 26 ti26 := ⟨by kernel_rfl, by kernel_rfl, fun ρ => by kernel_rfl, by kernel_rfl⟩
def ti27 : TI := ⟨.int .u32, 1, [.int .u32 (.c 0)]⟩
theorem tt27 : TIOk Try.prog 27 ti27 := ⟨by kernel_rfl, by kernel_rfl, fun ρ => by kernel_rfl, by kernel_rfl⟩
def ti28 : TI := ⟨.struct [(0, 26), (1, 26), (2, 3), (3, 3), (4, 3), (5, 27)], 6, [.int .u64 (.c 0), .int .u64 (.c 0), .int .i64 (.c 0), .int .i64 (.c 0), .int .i64 (.c 0), .int .u32 (.c 0)]⟩
theorem tt28 : TIOk Try.prog 28 ti28 := ⟨by kernel_rfl, by kernel_rfl, fun ρ => by kernel_rfl, by kernel_rfl⟩
def ti29 : TI := ⟨.struct [(0, 26), (1, 26), (2, 3), (3, 3), (4, 3), (5, 27)], 6, [.int .u64 (.c 0), .int .u64 (.c 0), .int .i64 (.c 0), .int .i64 (.c 0), .int .i64 (.c 0), .int .u32 (.c 0)]⟩
theorem tt29 : TIOk Try.prog 29 ti29 := ⟨by kernel_rfl, by kernel_rfl, fun ρ => by kernel_rfl, by kernel_rfl⟩
def ti30 : TI := ⟨.slice 50, 1, [.val (.slice none 0 0)]⟩
theorem tt30 : TIOk Try.prog 30 ti30 := ⟨by kernel_rfl, by kernel_rfl, fun ρ => by kernel_rfl, by kernel_rfl⟩
def ti31 : TI := ⟨.struct [(0, 29), (6, 30)], 7, [.int .u64 (.c 0), .int .u64 (.c 0), .int .i64 (.c 0), .int .i64 (.c 0), .int .i64 (.c 0), .int .u32 (.c 0), .val (.slice none 0 0)]⟩
theorem tt31 : TIOk Try.prog 31 ti31 := ⟨by kernel_rfl, by kernel_rfl, fun ρ => by kernel_rfl, by kernel_rfl⟩
def ti32 : TI := ⟨.struct [(0, 29), (6, 30)], 7, [.int .u64 (.c 0), .int .u64 (.c 0), .int .i64 (.c 0), .int .i64 (.c 0), .int .i64 (.c 0), .int .u32 (.c 0), .val (.slice none 0 0)]⟩
theorem tt32 : TIOk Try.prog 32 ti32 := ⟨by kernel_rfl, by kernel_rfl, fun ρ => by kernel_rfl, by kernel_rfl⟩
def ti33 : TI := ⟨.other, 1, [.val .nilFunc]⟩
theorem tt33 : TIOk Try.prog 33 ti33 := ⟨by kernel_rfl, by kernel_rfl, fun ρ => by kernel_rfl, by kernel_rfl⟩
def ti34 : TI := ⟨.int .i64, 1, [.int .i64 (.c 0)]⟩
theorem tt34 : TIOk Try.prog 34 ti34 := ⟨by kernel_rfl, by kernel_rfl, fun ρ => by kernel_rfl, by kernel_rfl⟩
def ti35 : TI := ⟨.other, 1, [.val .nilFunc]⟩
theorem tt35 : TIOk Try.prog 35 ti35 := ⟨by kernel_rfl, by kernel_rfl, fun ρ => by kernel_rfl, by kernel_rfl⟩
def ti36 : TI := ⟨.slice 89, 1, [.val (.slice none 0 0)]⟩
theorem tt36 : TIOk Try.prog 36 ti36 := ⟨by kernel_rfl, by kernel_rfl, fun ρ => by kernel_rfl, by kernel_rfl⟩
def ti37 : TI := ⟨.struct [(0, 3), (1, 22)], 2, [.int .i64 (.c 0), .val (.slice none 0 0)]⟩
theorem tt37 : TIOk Try.prog 37 ti37 := ⟨by kernel_rfl, by kernel_rfl, fun ρ => by kernel_rfl, by kernel_rfl⟩
def ti38 : TI := ⟨.struct [(0, 3), (1, 22)], 2, [.int .i64 (.c 0), .val (.slice none 0 0)]⟩
theorem tt38 : TIOk Try.prog 38 ti38 := ⟨by kernel_rfl, by kernel_rfl, fun ρ => by kernel_rfl, by kernel_rfl⟩
def ti39 : TI := ⟨.struct [(0, 3), (1, 22)], 2, [.int .i64 (.c 0), .val (.slice none 0 0)]⟩
theorem tt39 : TIOk Try.prog 39 ti39 := ⟨by kernel_rfl, by kernel_rfl, fun ρ => by kernel_rfl, by kernel_rfl⟩
def ti40 : TI := ⟨.struct [(0, 3), (1, 22)], 2, [.int .i64 (.c 0), .val (.slice none 0 0)]⟩
theorem tt40 : TIOk Try.prog 40 ti40 := ⟨by kernel_rfl, by kernel_rfl, fun ρ => by kernel_rfl, by kernel_rfl⟩
def ti41 : TI := ⟨.struct [(0, 3), (1, 22)], 2, [.int .i64 (.c 0), .val (.slice none 0 0)]⟩
theorem tt41 : TIOk Try.prog 41 ti41 := ⟨by kernel_rfl, by kernel_rfl, fun ρ => by kernel_rfl, by kernel_rfl⟩
def ti42 : TI := ⟨.struct [(0, 3), (1, 22)], 2, [.int .i64 (.c 0), .val (.slice none 0 0)]⟩
theorem tt42 : TIOk Try.prog 42 ti42 := ⟨by kernel_rfl, by kernel_rfl, fun ρ => by kernel_rfl, by kernel_rfl⟩
def ti43 : TI := ⟨.struct [(0, 3), (1, 22), (2, 3), (3, 22)], 4, [.int .i64 (.c 0), .val (.slice none 0 0), .int .i64 (.c 0), .val (.slice none 0 0)]⟩
theorem tt43 : TIOk Try.prog 43 ti43 := ⟨by kernel_rfl, by kernel_rfl, fun ρ => by kernel_rfl, by kernel_rfl⟩
def ti44 : TI := ⟨.struct [(0, 3), (1, 22), (2, 3), (3, 22)], 4, [.int .i64 (.c 0), .val (.slice none 0 0), .int .i64 (.c 0), .val (.slice none 0 0)]⟩
theorem tt44 : TIOk Try.prog 44 ti44 := ⟨by kernel_rfl, by kernel_rfl, fun ρ => by kernel_rfl, by kernel_rfl⟩
def ti45 : TI := ⟨.slice 22, 1, [.val (.slice none 0 0)]⟩
theorem tt45 : TIOk Try.prog 45 ti45 := ⟨by kernel_rfl, by kernel_rfl, fun ρ => by kernel_rfl, by kernel_rfl⟩
def ti46 : TI := ⟨.struct [(0, 3), (1, 45)], 2, [.int .i64 (.c 0), .val (.slice none 0 0)]⟩
theorem tt46 : TIOk Try.prog 46 ti46 := ⟨by kernel_rfl, by kernel_rfl, fun ρ => by kernel_rfl, by kernel_rfl⟩
def ti47 : TI := ⟨.struct [(0, 3), (1, 45)], 2, [.int .i64 (.c 0), .val (.slice none 0 0)]⟩
theorem tt47 : TIOk Try.prog 47 ti47 := ⟨by kernel_rfl, by kernel_rfl, fun ρ => by kernel_rfl, by kernel_rfl⟩
def ti48 : TI := ⟨.slice 96, 1, [.val (.slice none 0 0)]⟩
theorem tt48 : TIOk Try.prog 48 ti48 := ⟨by kernel_rfl, by kernel_rfl, fun ρ => by kernel_rfl, by kernel_rfl⟩
def ti49 : TI := ⟨.struct [(0, 3), (1, 36), (2, 38), (4, 40), (6, 42), (8, 44), (12, 47), (14, 48), (15, 22)], 16, [.int .i64 (.c 0), .val (.slice none 0 0), .int .i64 (.c 0), .val (.slice none 0 0), .int .i64 (.c 0), .val (.slice none 0 0), .int .i64 (.c 0), .val (.slice none 0 0), .int .i64 (.c 0), .val (.slice none 0 0), .int .i64 (.c 0), .val (.slice none 0 0), .int .i64 (.c 0), .val (.slice none 0 0), .val (.slice none 0 0), .val (.slice none 0 0)]⟩
theorem tt49 : TIOk Try.prog 49 ti49 := ⟨by kernel_rfl, by kernel_rfl, fun ρ => by kernel_rfl, by kernel_rfl⟩
def ti50 : TI := ⟨.struct [(0, 3), (1, 36), (2, 38), (4, 40), (6, 42), (8, 44), (12, 47), (14, 48), (15, 22)], 16, [.int .i64 (.c 0), .val (.slice none 0 0), .int .i64 (.c 0), .val (.slice none 0 0), .int .i64 (.c 0), .val (.slice none 0 0), .int .i64 (.c 0), .val (.slice none 0 0), .int .i64 (.c 0), .val (.slice none 0 0), .int .i64 (.c 0), .val (.slice none 0 0), .int .i64 (.c 0), .val (.slice none 0 0), .val (.slice none 0 0), .val (.slice none 0 0)]⟩
theorem tt50 : TIOk Try.prog 50 ti50 := ⟨by kernel_rfl, by kernel_rfl, fun ρ => by kernel_rfl, by kernel_rfl⟩
def ti51 : TI := ⟨.slice 3, 1, [.val (.slice none 0 0)]⟩
theorem tt51 : TIOk Try.prog 51 ti51 := ⟨by kernel_rfl, by kernel_rfl, fun ρ => by kernel_rfl, by kernel_rfl⟩
def ti52 : TI := ⟨.other, 1, [.val .nilFunc]⟩
theorem tt52 : TIOk Try.prog 52 ti52 := ⟨by kernel_rfl, by kernel_rfl, fun ρ => by kernel_rfl, by kernel_rfl⟩
def ti53 : TI := ⟨.other, 1, [.val .nilFunc]⟩
theorem tt53 : TIOk Try.prog 53 ti53 := ⟨by kernel_rfl, by kernel_rfl, fun ρ => by kernel_rfl, by kernel_rfl⟩
def ti54 : TI := ⟨.other, 1, [.val .nilFunc]⟩
theorem tt54 : TIOk Try.prog 54 ti54 := ⟨by kernel_rfl, by kernel_rfl, fun ρ => by kernel_rfl, by kernel_rfl⟩
def ti56 : TI := ⟨.other, 1, [.val .nilFunc]⟩
theorem tt56 : TIOk Try.prog 56 ti56 := ⟨by kernel_rfl, by kernel_rfl, fun ρ => by kernel_rfl, by kernel_rfl⟩
def ti57 : TI := ⟨.struct [(0, 3), (1, 4), (2, 22)], 3, [.int .i64 (.c 0), .bool (.c false), .val (.slice none 0 0)]⟩
theorem tt57 : TIOk Try.prog 57 ti57 := ⟨by kernel_rfl, by kernel_rfl, fun ρ => by kernel_rfl, by kernel_rfl⟩
def ti58 : TI := ⟨.struct [(0, 3), (1, 4), (2, 22)], 3, [.int .i64 (.c 0), .bool (.c false), .val (.slice none 0 0)]⟩
theorem tt58 : TIOk Try.prog 58 ti58 := ⟨by kernel_rfl, by kernel_rfl, fun ρ => by kernel_rfl, by kernel_rfl⟩
def ti59 : TI := ⟨.other, 1, [.val .nilFunc]⟩
theorem tt59 : TIOk Try.prog 59 ti59 := ⟨by kernel_rfl, by kernel_rfl, fun ρ => by kernel_rfl, by kernel_rfl⟩
def ti61 : TI := ⟨.other, 1, [.val .nilFunc]⟩
theorem tt61 : TIOk Try.prog 61 ti61 := ⟨by kernel_rfl, by kernel_rfl, fun ρ => by kernel_rfl, by kernel_rfl⟩
def ti62 : TI := ⟨.struct [(0, 22), (1, 3)], 2, [.val (.slice none 0 0), .int .i64 (.c 0)]⟩
theorem tt62 : TIOk Try.prog 62 ti62 := ⟨by kernel_rfl, by kernel_rfl, fun ρ => by kernel_rfl, by kernel_rfl⟩
def ti63 : TI := ⟨.struct [(0, 22), (1, 3)], 2, [.val (.slice none 0 0), .int .i64 (.c 0)]⟩
theorem tt63 : TIOk Try.prog 63 ti63 := ⟨by kernel_rfl, by kernel_rfl, fun ρ => by kernel_rfl, by kernel_rfl⟩
def ti64 : TI := ⟨.other, 1, [.val .nilFunc]⟩
theorem tt64 : TIOk Try.prog 64 ti64 := ⟨by kernel_rfl, by kernel_rfl, fun ρ => by kernel_rfl, by kernel_rfl⟩
def ti65 : TI := ⟨.other, 1, [.val .nilFunc]⟩
theorem tt65 : TIOk Try.prog 65 ti65 := ⟨by kernel_rfl, by kernel_rfl, fun ρ => by kernel_rfl, by kernel_rfl⟩
def ti66 : TI := ⟨.other, 1, [.val .nilFunc]⟩
theorem tt66 : TIOk Try.prog 66 ti66 := ⟨by kernel_rfl, by kernel_rfl, fun ρ => by kernel_rfl, by kernel_rfl⟩
def ti67 : TI := ⟨.other, 1, [.val .nilFunc]⟩
theorem tt67 : TIOk Try.prog 67 ti67 := ⟨by kernel_rfl, by kernel_rfl, fun ρ => by kernel_rfl, by kernel_rfl⟩
def ti68 : TI := ⟨.other, 1, [.val .nilFunc]⟩
theorem tt68 : TIOk Try.prog 68 ti68 := ⟨by kernel_rfl, by kernel_rfl, fun ρ => by kernel_rfl, by kernel_rfl⟩
def ti70 : TI := ⟨.other, 1, [.val .nilFunc]⟩
theorem tt70 : TIOk Try.prog 70 ti70 := ⟨by kernel_rfl, by kernel_rfl, fun ρ => by kernel_rfl, by kernel_rfl⟩
def ti71 : TI := ⟨.other, 1, [.val .nilFunc]⟩
theorem tt71 : TIOk Try.prog 71 ti71 := ⟨by kernel_rfl, by kernel_rfl, fun ρ => by kernel_rfl, by kernel_rfl⟩
def ti72 : TI := ⟨.pointer 50, 1, [.val (.pointer none)]⟩
theorem tt72 : TIOk Try.prog 72 ti72 := ⟨by kernel_rfl, by kernel_rfl, fun ρ => by kernel_rfl, by kernel_rfl⟩
def ti73 : TI := ⟨.other, 1, [.val .nilFunc]⟩
theorem tt73 : TIOk Try.prog 73 ti73 := ⟨by kernel_rfl, by kernel_rfl, fun ρ => by kernel_rfl, by kernel_rfl⟩
def ti74 : TI := ⟨.struct [(0, 72)], 1, [.val (.pointer none)]⟩
theorem tt74 : TIOk Try.prog 74 ti74 := ⟨by kernel_rfl, by kernel_rfl, fun ρ => by kernel_rfl, by kernel_rfl⟩
def ti75 : TI := ⟨.struct [(0, 72)], 1, [.val (.pointer none)]⟩
theorem tt75 : TIOk Try.prog 75 ti75 := ⟨by kernel_rfl, by kernel_rfl, fun ρ => by kernel_rfl, by kernel_rfl⟩
def ti76 : TI := ⟨.other, 1, [.val .nilFunc]⟩
theorem tt76 : TIOk Try.prog 76 ti76 := ⟨by kernel_rfl, by kernel_rfl, fun ρ => by kernel_rfl, by kernel_rfl⟩
def ti77 : TI := ⟨.other, 1, [.val .nilFunc]⟩
theorem tt77 : TIOk Try.prog 77 ti77 := ⟨by kernel_rfl, by kernel_rfl, fun ρ => by kernel_rfl, by kernel_rfl⟩
def ti78 : TI := ⟨.other, 1, [.val .nilFunc]⟩
theorem tt78 : TIOk Try.prog 78 ti78 := ⟨by kernel_rfl, by kernel_rfl, fun ρ => by kernel_rfl, by kernel_rfl⟩
def ti79 : TI := ⟨.other, 1, [.val .nilFunc]⟩
theorem tt79 : TIOk Try.prog 79 ti79 := ⟨by kernel_rfl, by kernel_rfl, fun ρ => by kernel_rfl, by kernel_rfl⟩
def ti80 : TI := ⟨.other, 1, [.val .nilFunc]⟩
theorem tt80 : TIOk Try.prog 80 ti80 := ⟨by kernel_rfl, by kernel_rfl, fun ρ => by kernel_rfl, by kernel_rfl⟩
def ti81 : TI := ⟨.other, 1, [.val .nilFunc]⟩
theorem tt81 : TIOk Try.prog 81 ti81 := ⟨by kernel_rfl, by kernel_rfl, fun ρ => by kernel_rfl, by kernel_rfl⟩
def ti82 : TI := ⟨.map 3 51, 1, [.val (.map none)]⟩
theorem tt82 : TIOk Try.prog 82 ti82 := ⟨by kernel_rfl, by kernel_rfl, fun ρ => by kernel_rfl, by kernel_rfl⟩
def ti84 : TI := ⟨.other, 1, [.val .nilFunc]⟩
theorem tt84 : TIOk Try.prog 84 ti84 := ⟨by kernel_rfl, by kernel_rfl, fun ρ => by kernel_rfl, by kernel_rfl⟩
def ti85 : TI := ⟨.other, 1, [.val .nilFunc]⟩
theorem tt85 : TIOk Try.prog 85 ti85 := ⟨by kernel_rfl, by kernel_rfl, fun ρ => by kernel_rfl, by kernel_rfl⟩
def ti86 : TI := ⟨.int .u64, 1, [.int .u64 (.c 0)]⟩
theorem tt86 : TIOk Try.prog 86 ti86 := ⟨by kernel_rfl, by kernel_rfl, fun ρ => by kernel_rfl, by kernel_rfl⟩
def ti87 : TI := ⟨.slice 92, 1, [.val (.slice none 0 0)]⟩
theorem tt87 : TIOk Try.prog 87 ti87 := ⟨by kernel_rfl, by kernel_rfl, fun ρ => by kernel_rfl, by kernel_rfl⟩
def ti88 : TI := ⟨.struct [(0, 3), (1, 3), (2, 22), (3, 87)], 4, [.int .i64 (.c 0), .int .i64 (.c 0), .val (.slice none 0 0), .val (.slice none 0 0)]⟩
theorem tt88 : TIOk Try.prog 88 ti88 := ⟨by kernel_rfl, by kernel_rfl, fun ρ => by kernel_rfl, by kernel_rfl⟩
def ti89 : TI := ⟨.struct [(0, 3), (1, 3), (2, 22), (3, 87)], 4, [.int .i64 (.c 0), .int .i64 (.c 0), .val (.slice none 0 0), .val (.slice none 0 0)]⟩
theorem tt89 : TIOk Try.prog 89 ti89 := ⟨by kernel_rfl, by kernel_rfl, fun ρ => by kernel_rfl, by kernel_rfl⟩
def ti90 : TI := ⟨.map 92 4, 1, [.val (.map none)]⟩
theorem tt90 : TIOk Try.prog 90 ti90 := ⟨by kernel_rfl, by kernel_rfl, fun ρ => by kernel_rfl, by kernel_rfl⟩
def ti91 : TI := ⟨.struct [(0, 3), (1, 3), (2, 3)], 3, [.int .i64 (.c 0), .int .i64 (.c 0), .int .i64 (.c 0)]⟩
theorem tt91 : TIOk Try.prog 91 ti91 := ⟨by kernel_rfl, by kernel_rfl, fun ρ => by kernel_rfl, by kernel_rfl⟩
def ti92 : TI := ⟨.struct [(0, 3), (1, 3), (2, 3)], 3, [.int .i64 (.c 0), .int .i64 (.c 0), .int .i64 (.c 0)]⟩
theorem tt92 : TIOk Try.prog 92 ti92 := ⟨by kernel_rfl, by kernel_rfl, fun ρ => by kernel_rfl, by kernel_rfl⟩
def ti93 : TI := ⟨.struct [(0, 3), (1, 26), (2, 26)], 3, [.int .i64 (.c 0), .int .u64 (.c 0), .int .u64 (.c 0)]⟩
theorem tt93 : TIOk Try.prog 93 ti93 := ⟨by kernel_rfl, by kernel_rfl, fun ρ => by kernel_rfl, by kernel_rfl⟩
def ti94 : TI := ⟨.struct [(0, 3), (1, 26), (2, 26)], 3, [.int .i64 (.c 0), .int .u64 (.c 0), .int .u64 (.c 0)]⟩
theorem tt94 : TIOk Try.prog 94 ti94 := ⟨by kernel_rfl, by kernel_rfl, fun ρ => by kernel_rfl, by kernel_rfl⟩
def ti95 : TI := ⟨.struct [(0, 3), (1, 3), (2, 3), (3, 94), (6, 94)], 9, [.int .i64 (.c 0), .int .i64 (.c 0), .int .i64 (.c 0), .int .i64 (.c 0), .int .u64 (.c 0), .int .u64 (.c 0), .int .i64 (.c 0), .int .u64 (.c 0), .int .u64 (.c 0)]⟩
theorem tt95 : TIOk Try.prog 95 ti95 := ⟨by kernel_rfl, by kernel_rfl, fun ρ => by kernel_rfl, by kernel_rfl⟩
def ti96 : TI := ⟨.struct [(0, 3), (1, 3), (2, 3), (3, 94), (6, 94)], 9, [.int .i64 (.c 0), .int .i64 (.c 0), .int .i64 (.c 0), .int .i64 (.c 0), .int .u64 (.c 0), .int .u64 (.c 0), .int .i64 (.c 0), .int .u64 (.c 0), .int .u64 (.c 0)]⟩
theorem tt96 : TIOk Try.prog 96 ti96 := ⟨by kernel_rfl, by kernel_rfl, fun ρ => by kernel_rfl, by kernel_rfl⟩
def ti97 : TI := ⟨.other, 1, [.val .nilFunc]⟩
theorem tt97 : TIOk Try.prog 97 ti97 := ⟨by kernel_rfl, by kernel_rfl, fun ρ => by kernel_rfl, by kernel_rfl⟩
def ti98 : TI := ⟨.slice 44, 1, [.val (.slice none 0 0)]⟩
theorem tt98 : TIOk Try.prog 98 ti98 := ⟨by kernel_rfl, by kernel_rfl, fun ρ => by kernel_rfl, by kernel_rfl⟩
def ti99 : TI := ⟨.other, 1, [.val .nilFunc]⟩
theorem tt99 : TIOk Try.prog 99 ti99 := ⟨by kernel_rfl, by kernel_rfl, fun ρ => by kernel_rfl, by kernel_rfl⟩
def ti100 : TI := ⟨.other, 1, [.val .nilFunc]⟩
theorem tt100 : TIOk Try.prog 100 ti100 := ⟨by kernel_rfl, by kernel_rfl, fun ρ => by kernel_rfl, by kernel_rfl⟩
def ti101 : TI := ⟨.other, 1, [.val .nilFunc]⟩
theorem tt101 : TIOk Try.prog 101 ti101 := ⟨by kernel_rfl, by kernel_rfl, fun ρ => by kernel_rfl, by kernel_rfl⟩
def ti102 : TI := ⟨.array 4 5, 4, [.int .u8 (.c 0), .int .u8 (.c 0), .int .u8 (.c 0), .int .u8 (.c 0)]⟩
theorem tt102 : TIOk Try.prog 102 ti102 := ⟨by kernel_rfl, by kernel_rfl, fun ρ => by kernel_rfl, by kernel_rfl⟩
def ti103 : TI := ⟨.array 4 5, 4, [.int .u8 (.c 0), .int .u8 (.c 0), .int .u8 (.c 0), .int .u8 (.c 0)]⟩
theorem tt103 : TIOk Try.prog 103 ti103 := ⟨by kernel_rfl, by kernel_rfl, fun ρ => by kernel_rfl, by kernel_rfl⟩
def ti104 : TI := ⟨.other, 1, [.val .nilFunc]⟩
theorem tt104 : TIOk Try.prog 104 ti104 := ⟨by kernel_rfl, by kernel_rfl, fun ρ => by kernel_rfl, by kernel_rfl⟩
def ti105 : TI := ⟨.other, 1, [.val .nilFunc]⟩
theorem tt105 : TIOk Try.prog 105 ti105 := ⟨by kernel_rfl, by kernel_rfl, fun ρ => by kernel_rfl, by kernel_rfl⟩
def ti106 : TI := ⟨.other, 1, [.val .nilFunc]⟩
theorem tt106 : TIOk Try.prog 106 ti106 := ⟨by kernel_rfl, by kernel_rfl, fun ρ => by kernel_rfl, by kernel_rfl⟩
def ti107 : TI := ⟨.other, 1, [.val .nilFunc]⟩
theorem tt107 : TIOk Try.prog 107 ti107 := ⟨by kernel_rfl, by kernel_rfl, fun ρ => by kernel_rfl, by kernel_rfl⟩
def ti108 : TI := ⟨.other, 1, [.val .nilFunc]⟩
theorem tt108 : TIOk Try.prog 108 ti108 := ⟨by kernel_rfl, by kernel_rfl, fun ρ => by kernel_rfl, by kernel_rfl⟩
def ti110 : TI := ⟨.other, 1, [.val .nilFunc]⟩
theorem tt110 : TIOk Try.prog 110 ti110 := ⟨by kernel_rfl, by kernel_rfl, fun ρ => by kernel_rfl, by kernel_rfl⟩
def ti112 : TI := ⟨.other, 1, [.val .nilFunc]⟩
theorem tt112 : TIOk Try.prog 112 ti112 := ⟨by kernel_rfl, by kernel_rfl, fun ρ => by kernel_rfl, by kernel_rfl⟩
def ti114 : TI := ⟨.other, 1, [.val .nilFunc]⟩
theorem tt114 : TIOk Try.prog 114 ti114 := ⟨by kernel_rfl, by kernel_rfl, fun ρ => by kernel_rfl, by kernel_rfl⟩
def ti115 : TI := ⟨.other, 1, [.val .nilFunc]⟩
theorem tt115 : TIOk Try.prog 115 ti115 := ⟨by kernel_rfl, by kernel_rfl, fun ρ => by kernel_rfl, by kernel_rfl⟩
def ti116 : TI := ⟨.other, 1, [.val .nilFunc]⟩
theorem tt116 : TIOk Try.prog 116 ti116 := ⟨by kernel_rfl, by kernel_rfl, fun ρ => by kernel_rfl, by kernel_rfl⟩
def ti117 : TI := ⟨.other, 1, [.val .nilFunc]⟩
theorem tt117 : TIOk Try.prog 117 ti117 := ⟨by kernel_rfl, by kernel_rfl, fun ρ => by kernel_rfl, by kernel_rfl⟩
def ti119 : TI := ⟨.other, 1, [.val .nilFunc]⟩
theorem tt119 : TIOk Try.prog 119 ti119 := ⟨by kernel_rfl, by kernel_rfl, fun ρ => by kernel_rfl, by kernel_rfl⟩
def ti120 : TI := ⟨.other, 1, [.val .nilFunc]⟩
theorem tt120 : TIOk Try.prog 120 ti120 := ⟨by kernel_rfl, by kernel_rfl, fun ρ => by kernel_rfl, by kernel_rfl⟩
def ti121 : TI := ⟨.other, 1, [.val .nilFunc]⟩
theorem tt121 : TIOk Try.prog 121 ti121 := ⟨by kernel_rfl, by kernel_rfl, fun ρ => by kernel_rfl, by kernel_rfl⟩
def ti122 : TI := ⟨.other, 1, [.val .nilFunc]⟩
theorem tt122 : TIOk Try.prog 122 ti122 := ⟨by kernel_rfl, by kernel_rfl, fun ρ => by kernel_rfl, by kernel_rfl⟩
def ti123 : TI := ⟨.other, 1, [.val .nilFunc]⟩
theorem tt123 : TIOk Try.prog 123 ti123 := ⟨by kernel_rfl, by kernel_rfl, fun ρ => by kernel_rfl, by kernel_rfl⟩
def ti125 : TI := ⟨.other, 1, [.val .nilFunc]⟩
theorem tt125 : TIOk Try.prog 125 ti125 := ⟨by kernel_rfl, by kernel_rfl, fun ρ => by kernel_rfl, by kernel_rfl⟩
def ti126 : TI := ⟨.other, 1, [.val .nilFunc]⟩
theorem tt126 : TIOk Try.prog 126 ti126 := ⟨by kernel_rfl, by kernel_rfl, fun ρ => by kernel_rfl, by kernel_rfl⟩
def ti127 : TI := ⟨.struct [], 0, []⟩
theorem tt127 : TIOk Try.prog 127 ti127 := ⟨by kernel_rfl, by kernel_rfl, fun ρ => by kernel_rfl, by kernel_rfl⟩
def ti128 : TI := ⟨.struct [], 0, []⟩
theorem tt128 : TIOk Try.prog 128 ti128 := ⟨by kernel_rfl, by kernel_rfl, fun ρ => by kernel_rfl, by kernel_rfl⟩
def ti130 : TI := ⟨.pointer 134, 1, [.val (.pointer none)]⟩
theorem tt130 : TIOk Try.prog 130 ti130 := ⟨by kernel_rfl, by kernel_rfl, fun ρ => by kernel_rfl, by kernel_rfl⟩
def ti131 : TI := ⟨.struct [(0, 22)], 1, [.val (.slice none 0 0)]⟩
theorem tt131 : TIOk Try.prog 131 ti131 := ⟨by kernel_rfl, by kernel_rfl, fun ρ => by kernel_rfl, by kernel_rfl⟩
def ti132 : TI := ⟨.struct [(0, 22)], 1, [.val (.slice none 0 0)]⟩
theorem tt132 : TIOk Try.prog 132 ti132 := ⟨by kernel_rfl, by kernel_rfl, fun ρ => by kernel_rfl, by kernel_rfl⟩
def ti133 : TI := ⟨.struct [(0, 132)], 1, [.val (.slice none 0 0)]⟩
theorem tt133 : TIOk Try.prog 133 ti133 := ⟨by kernel_rfl, by kernel_rfl, fun ρ => by kernel_rfl, by kernel_rfl⟩
def ti134 : TI := ⟨.struct [(0, 132)], 1, [.val (.slice none 0 0)]⟩
theorem tt134 : TIOk Try.prog 134 ti134 := ⟨by kernel_rfl, by kernel_rfl, fun ρ => by kernel_rfl, by kernel_rfl⟩
def ti136 : TI := ⟨.other, 1, [.val .nilFunc]⟩
theorem tt136 : TIOk Try.prog 136 ti136 := ⟨by kernel_rfl, by kernel_rfl, fun ρ => by kernel_rfl, by kernel_rfl⟩
def ti138 : TI := ⟨.other, 1, [.val .nilFunc]⟩
theorem tt138 : TIOk Try.prog 138 ti138 := ⟨by kernel_rfl, by kernel_rfl, fun ρ => by kernel_rfl, by kernel_rfl⟩
def ti139 : TI := ⟨.other, 1, [.val .nilFunc]⟩
theorem tt139 : TIOk Try.prog 139 ti139 := ⟨by kernel_rfl, by kernel_rfl, fun ρ => by kernel_rfl, by kernel_rfl⟩
def ti140 : TI := ⟨.other, 1, [.val .nilFunc]⟩
theorem tt140 : TIOk Try.prog 140 ti140 := ⟨by kernel_rfl, by kernel_rfl, fun ρ => by kernel_rfl, by kernel_rfl⟩
def ti142 : TI := ⟨.other, 1, [.val .nilFunc]⟩
theorem tt142 : TIOk Try.prog 142 ti142 := ⟨by kernel_rfl, by kernel_rfl, fun ρ => by kernel_rfl, by kernel_rfl⟩
def ti143 : TI := ⟨.other, 1, [.val .nilFunc]⟩
theorem tt143 : TIOk Try.prog 143 ti143 := ⟨by kernel_rfl, by kernel_rfl, fun ρ => by kernel_rfl, by kernel_rfl⟩
def ti144 : TI := ⟨.other, 1, [.val .nilFunc]⟩
theorem tt144 : TIOk Try.prog 144 ti144 := ⟨by kernel_rfl, by kernel_rfl, fun ρ => by kernel_rfl, by kernel_rfl⟩
def ti145 : TI := ⟨.other, 1, [.val .nilFunc]⟩
theorem tt145 : TIOk Try.prog 145 ti145 := ⟨by kernel_rfl, by kernel_rfl, fun ρ => by kernel_rfl, by kernel_rfl⟩
def ti146 : TI := ⟨.other, 1, [.val .nilFunc]⟩
theorem tt146 : TIOk Try.prog 146 ti146 := ⟨by kernel_rfl, by kernel_rfl, fun ρ => by kernel_rfl, by kernel_rfl⟩
def ti148 : TI := ⟨.other, 1, [.val .nilFunc]⟩
theorem tt148 : TIOk Try.prog 148 ti148 := ⟨by kernel_rfl, by kernel_rfl, fun ρ => by kernel_rfl, by kernel_rfl⟩
def ti150 : TI := ⟨.other, 1, [.val .nilFunc]⟩
theorem tt150 : TIOk Try.prog 150 ti150 := ⟨by kernel_rfl, by kernel_rfl, fun ρ => by kernel_rfl, by kernel_rfl⟩
def ti152 : TI := ⟨.other, 1, [.val .nilFunc]⟩
theorem tt152 : TIOk Try.prog 152 ti152 := ⟨by kernel_rfl, by kernel_rfl, fun ρ => by kernel_rfl, by kernel_rfl⟩
def ti153 : TI := ⟨.other, 1, [.val .nilFunc]⟩
theorem tt153 : TIOk Try.prog 153 ti153 := ⟨by kernel_rfl, by kernel_rfl, fun ρ => by kernel_rfl, by kernel_rfl⟩
def ti154 : TI := ⟨.other, 1, [.val .nilFunc]⟩
theorem tt154 : TIOk Try.prog 154 ti154 := ⟨by kernel_rfl, by kernel_rfl, fun ρ => by kernel_rfl, by kernel_rfl⟩
def ti155 : TI := ⟨.other, 1, [.val .nilFunc]⟩
theorem tt155 : TIOk Try.prog 155 ti155 := ⟨by kernel_rfl, by kernel_rfl, fun ρ => by kernel_rfl, by kernel_rfl⟩
def ti156 : TI := ⟨.slice 26, 1, [.val (.slice none 0 0)]⟩
theorem tt156 : TIOk Try.prog 156 ti156 := ⟨by kernel_rfl, by kernel_rfl, fun ρ => by kernel_rfl, by kernel_rfl⟩
def ti157 : TI := ⟨.other, 1, [.val .nilFunc]⟩
theorem tt157 : TIOk Try.prog 157 ti157 := ⟨by kernel_rfl, by kernel_rfl, fun ρ => by kernel_rfl, by kernel_rfl⟩
def ti158 : TI := ⟨.other, 1, [.val .nilFunc]⟩
theorem tt158 : TIOk Try.prog 158 ti158 := ⟨by kernel_rfl, by kernel_rfl, fun ρ => by kernel_rfl, by kernel_rfl⟩
def ti159 : TI := ⟨.other, 1, [.val .nilFunc]⟩
theorem tt159 : TIOk Try.prog 159 ti159 := ⟨by kernel_rfl, by kernel_rfl, fun ρ => by kernel_rfl, by kernel_rfl⟩
def ti160 : TI := ⟨.pointer 132, 1, [.val (.pointer none)]⟩
theorem tt160 : TIOk Try.prog 160 ti160 := ⟨by kernel_rfl, by kernel_rfl, fun ρ => by kernel_rfl, by kernel_rfl⟩
def ti162 : TI := ⟨.other, 1, [.val .nilFunc]⟩
theorem tt162 : TIOk Try.prog 162 ti162 := ⟨by kernel_rfl, by kernel_rfl, fun ρ => by kernel_rfl, by kernel_rfl⟩
def ti163 : TI := ⟨.struct [(0, 94)], 3, [.int .i64 (.c 0), .int .u64 (.c 0), .int .u64 (.c 0)]⟩
theorem tt163 : TIOk Try.prog 163 ti163 := ⟨by kernel_rfl, by kernel_rfl, fun ρ => by kernel_rfl, by kernel_rfl⟩
def ti164 : TI := ⟨.struct [(0, 94)], 3, [.int .i64 (.c 0), .int .u64 (.c 0), .int .u64 (.c 0)]⟩
theorem tt164 : TIOk Try.prog 164 ti164 := ⟨by kernel_rfl, by kernel_rfl, fun ρ => by kernel_rfl, by kernel_rfl⟩
def ti165 : TI := ⟨.other, 1, [.val .nilFunc]⟩
theorem tt165 : TIOk Try.prog 165 ti165 := ⟨by kernel_rfl, by kernel_rfl, fun ρ => by kernel_rfl, by kernel_rfl⟩
def ti166 : TI := ⟨.other, 1, [.val .nilFunc]⟩
theorem tt166 : TIOk Try.prog 166 ti166 := ⟨by kernel_rfl, by kernel_rfl, fun ρ => by kernel_rfl, by kernel_rfl⟩
def ti167 : TI := ⟨.struct [(0, 17), (1, 17), (2, 17), (3, 9)], 4, [.val (.pointer none), .val (.pointer none), .val (.pointer none), .str (fun _ => ⟨#[]⟩)]⟩
theorem tt167 : TIOk Try.prog 167 ti167 := ⟨by kernel_rfl, by kernel_rfl, fun ρ => by kernel_rfl, by kernel_rfl⟩
def ti168 : TI := ⟨.struct [(0, 17), (1, 17), (2, 17), (3, 9)], 4, [.val (.pointer none), .val (.pointer none), .val (.pointer none), .str (fun _ => ⟨#[]⟩)]⟩
theorem tt168 : TIOk Try.prog 168 ti168 := ⟨by kernel_rfl, by kernel_rfl, fun ρ => by kernel_rfl, by kernel_rfl⟩
def ti172 : TI := ⟨.other, 1, [.val .nilFunc]⟩
theorem tt172 : TIOk Try.prog 172 ti172 := ⟨by kernel_rfl, by kernel_rfl, fun ρ => by kernel_rfl, by kernel_rfl⟩
def ti173 : TI := ⟨.int .u8, 1, [.int .u8 (.c 0)]⟩
theorem tt173 : TIOk Try.prog 173 ti173 := ⟨by kernel_rfl, by kernel_rfl, fun ρ => by kernel_rfl, by kernel_rfl⟩
def ti174 : TI := ⟨.int .u8, 1, [.int .u8 (.c 0)]⟩
theorem tt174 : TIOk Try.prog 174 ti174 := ⟨by kernel_rfl, by kernel_rfl, fun ρ => by kernel_rfl, by kernel_rfl⟩
def ti175 : TI := ⟨.other, 1, [.val .nilFunc]⟩
theorem tt175 : TIOk Try.prog 175 ti175 := ⟨by kernel_rfl, by kernel_rfl, fun ρ => by kernel_rfl, by kernel_rfl⟩
def ti176 : TI := ⟨.pointer 5, 1, [.val (.pointer none)]⟩
theorem tt176 : TIOk Try.prog 176 ti176 := ⟨by kernel_rfl, by kernel_rfl, fun ρ => by kernel_rfl, by kernel_rfl⟩
def ti177 : TI := ⟨.int .i32, 1, [.int .i32 (.c 0)]⟩
theorem tt177 : TIOk Try.prog 177 ti177 := ⟨by kernel_rfl, by kernel_rfl, fun ρ => by kernel_rfl, by kernel_rfl⟩
def ti178 : TI := ⟨.int .i32, 1, [.int .i32 (.c 0)]⟩
theorem tt178 : TIOk Try.prog 178 ti178 := ⟨by kernel_rfl, by kernel_rfl, fun ρ => by kernel_rfl, by kernel_rfl⟩
def ti179 : TI := ⟨.struct [(0, 12), (1, 12), (2, 27), (3, 173), (4, 5), (5, 5), (6, 174), (7, 175), (8, 176), (9, 177), (10, 178)], 11, [.int .u64 (.c 0), .int .u64 (.c 0), .int .u32 (.c 0), .int .u8 (.c 0), .int .u8 (.c 0), .int .u8 (.c 0), .int .u8 (.c 0), .val .nilFunc, .val (.pointer none), .int .i32 (.c 0), .int .i32 (.c 0)]⟩
theorem tt179 : TIOk Try.prog 179 ti179 := ⟨by kernel_rfl, by kernel_rfl, fun ρ => by kernel_rfl, by kernel_rfl⟩
def ti180 : TI := ⟨.struct [(0, 12), (1, 12), (2, 27), (3, 173), (4, 5), (5, 5), (6, 174), (7, 175), (8, 176), (9, 177), (10, 178)], 11, [.int .u64 (.c 0), .int .u64 (.c 0), .int .u32 (.c 0), .int .u8 (.c 0), .int .u8 (.c 0), .int .u8 (.c 0), .int .u8 (.c 0), .val .nilFunc, .val (.pointer none), .int .i32 (.c 0), .int .i32 (.c 0)]⟩
theorem tt180 : TIOk Try.prog 180 ti180 := ⟨by kernel_rfl, by kernel_rfl, fun ρ => by kernel_rfl, by kernel_rfl⟩
def ti181 : TI := ⟨.other, 1, [.val (.pointer none)]⟩
theorem tt181 : TIOk Try.prog 181 ti181 := ⟨by kernel_rfl, by kernel_rfl, fun ρ => by kernel_rfl, by kernel_rfl⟩
/-- The types that this seat's functions meet. -/
def tt : TT := nd0 85 (nd0 41 (nd0 21 (nd0 11 (nd0 6 (nd0 3 (nd0 2 (lf0 1 ti1) (lf0 2 ti2)) (nd0 4 (lf0 3 ti3) (nd0 5 (lf0 4 ti4) (lf0 5 ti5)))) (nd0 8 (nd0 7 (lf0 6 ti6) (lf0 7 ti7)) (nd0 9 (lf0 8 ti8) (nd0 10 (lf0 9 ti9) (lf0 10 ti10))))) (nd0 16 (nd0 13 (nd0 12 (lf0 11 ti11) (lf0 12 ti12)) (nd0 14 (lf0 13 ti13) (nd0 15 (lf0 14 ti14) (lf0 15 ti15)))) (nd0 18 (nd0 17 (lf0 16 ti16) (lf0 17 ti17)) (nd0 19 (lf0 18 ti18) (nd0 20 (lf0 19 ti19) (lf0 20 ti20)))))) (nd0 31 (nd0 26 (nd0 23 (nd0 22 (lf0 21 ti21) (lf0 22 ti22)) (nd0 24 (lf0 23 ti23) (nd0 25 (lf0 24 ti24) (lf0 25 ti25)))) (nd0 28 (nd0 27 (lf0 26 ti26) (lf0 27 ti27)) (nd0 29 (lf0 28 ti28) (nd0 30 (lf0 29 ti29) (lf0 30 ti30))))) (nd0 36 (nd0 33 (nd0 32 (lf0 31 ti31) (lf0 32 ti32)) (nd0 34 (lf0 33 ti33) (nd0 35 (lf0 34 ti34) (lf0 35 ti35)))) (nd0 38 (nd0 37 (lf0 36 ti36) (lf0 37 ti37)) (nd0 39 (lf0 38 ti38) (nd0 40 (lf0 39 ti39) (lf0 40 ti40))))))) (nd0 63 (nd0 51 (nd0 46 (nd0 43 (nd0 42 (lf0 41 ti41) (lf0 42 ti42)) (nd0 44 (lf0 43 ti43) (nd0 45 (lf0 44 ti44) (lf0 45 ti45)))) (nd0 48 (nd0 47 (lf0 46 ti46) (lf0 47 ti47)) (nd0 49 (lf0 48 ti48) (nd0 50 (lf0 49 ti49) (lf0 50 ti50))))) (nd0 57 (nd0 53 (nd0 52 (lf0 51 ti51) (lf0 52 ti52)) (nd0 54 (lf0 53 ti53) (nd0 56 (lf0 54 ti54) (lf0 56 ti56)))) (nd0 59 (nd0 58 (lf0 57 ti57) (lf0 58 ti58)) (nd0 61 (lf0 59 ti59) (nd0 62 (lf0 61 ti61) (lf0 62 ti62)))))) (nd0 74 (nd0 68 (nd0 65 (nd0 64 (lf0 63 ti63) (lf0 64 ti64)) (nd0 66 (lf0 65 ti65) (nd0 67 (lf0 66 ti66) (lf0 67 ti67)))) (nd0 71 (nd0 70 (lf0 68 ti68) (lf0 70 ti70)) (nd0 72 (lf0 71 ti71) (nd0 73 (lf0 72 ti72) (lf0 73 ti73))))) (nd0 79 (nd0 76 (nd0 75 (lf0 74 ti74) (lf0 75 ti75)) (nd0 77 (lf0 76 ti76) (nd0 78 (lf0 77 ti77) (lf0 78 ti78)))) (nd0 81 (nd0 80 (lf0 79 ti79) (lf0 80 ti80)) (nd0 82 (lf0 81 ti81) (nd0 84 (lf0 82 ti82) (lf0 84 ti84)))))))) (nd0 131 (nd0 105 (nd0 95 (nd0 90 (nd0 87 (nd0 86 (lf0 85 ti85) (lf0 86 ti86)) (nd0 88 (lf0 87 ti87) (nd0 89 (lf0 88 ti88) (lf0 89 ti89)))) (nd0 92 (nd0 91 (lf0 90 ti90) (lf0 91 ti91)) (nd0 93 (lf0 92 ti92) (nd0 94 (lf0 93 ti93) (lf0 94 ti94))))) (nd0 100 (nd0 97 (nd0 96 (lf0 95 ti95) (lf0 96 ti96)) (nd0 98 (lf0 97 ti97) (nd0 99 (lf0 98 ti98) (lf0 99 ti99)))) (nd0 102 (nd0 101 (lf0 100 ti100) (lf0 101 ti101)) (nd0 103 (lf0 102 ti102) (nd0 104 (lf0 103 ti103) (lf0 104 ti104)))))) (nd0 119 (nd0 112 (nd0 107 (nd0 106 (lf0 105 ti105) (lf0 106 ti106)) (nd0 108 (lf0 107 ti107) (nd0 110 (lf0 108 ti108) (lf0 110 ti110)))) (nd0 115 (nd0 114 (lf0 112 ti112) (lf0 114 ti114)) (nd0 116 (lf0 115 ti115) (nd0 117 (lf0 116 ti116) (lf0 117 ti117))))) (nd0 125 (nd0 121 (nd0 120 (lf0 119 ti119) (lf0 120 ti120)) (nd0 122 (lf0 121 ti121) (nd0 123 (lf0 122 ti122) (lf0 123 ti123)))) (nd0 127 (nd0 126 (lf0 125 ti125) (lf0 126 ti126)) (nd0 128 (lf0 127 ti127) (nd0 130 (lf0 128 ti128) (lf0 130 ti130))))))) (nd0 157 (nd0 144 (nd0 138 (nd0 133 (nd0 132 (lf0 131 ti131) (lf0 132 ti132)) (nd0 134 (lf0 133 ti133) (nd0 136 (lf0 134 ti134) (lf0 136 ti136)))) (nd0 140 (nd0 139 (lf0 138 ti138) (lf0 139 ti139)) (nd0 142 (lf0 140 ti140) (nd0 143 (lf0 142 ti142) (lf0 143 ti143))))) (nd0 152 (nd0 146 (nd0 145 (lf0 144 ti144) (lf0 145 ti145)) (nd0 148 (lf0 146 ti146) (nd0 150 (lf0 148 ti148) (lf0 150 ti150)))) (nd0 154 (nd0 153 (lf0 152 ti152) (lf0 153 ti153)) (nd0 155 (lf0 154 ti154) (nd0 156 (lf0 155 ti155) (lf0 156 ti156)))))) (nd0 168 (nd0 163 (nd0 159 (nd0 158 (lf0 157 ti157) (lf0 158 ti158)) (nd0 160 (lf0 159 ti159) (nd0 162 (lf0 160 ti160) (lf0 162 ti162)))) (nd0 165 (nd0 164 (lf0 163 ti163) (lf0 164 ti164)) (nd0 166 (lf0 165 ti165) (nd0 167 (lf0 166 ti166) (lf0 167 ti167))))) (nd0 176 (nd0 173 (nd0 172 (lf0 168 ti168) (lf0 172 ti172)) (nd0 174 (lf0 173 ti173) (nd0 175 (lf0 174 ti174) (lf0 175 ti175)))) (nd0 179 (nd0 177 (lf0 176 ti176) (nd0 178 (lf0 177 ti177) (lf0 178 ti178))) (nd0 180 (lf0 179 ti179) (nd0 181 (lf0 180 ti180) (lf0 181 ti181))))))))
theorem tt_ok : TT.ok Try.prog tt := (nd0_ok (nd0_ok (nd0_ok (nd0_ok (nd0_ok (nd0_ok (nd0_ok (lf0_ok tt1) (lf0_ok tt2)) (nd0_ok (lf0_ok tt3) (nd0_ok (lf0_ok tt4) (lf0_ok tt5)))) (nd0_ok (nd0_ok (lf0_ok tt6) (lf0_ok tt7)) (nd0_ok (lf0_ok tt8) (nd0_ok (lf0_ok tt9) (lf0_ok tt10))))) (nd0_ok (nd0_ok (nd0_ok (lf0_ok tt11) (lf0_ok tt12)) (nd0_ok (lf0_ok tt13) (nd0_ok (lf0_ok tt14) (lf0_ok tt15)))) (nd0_ok (nd0_ok (lf0_ok tt16) (lf0_ok tt17)) (nd0_ok (lf0_ok tt18) (nd0_ok (lf0_ok tt19) (lf0_ok tt20)))))) (nd0_ok (nd0_ok (nd0_ok (nd0_ok (lf0_ok tt21) (lf0_ok tt22)) (nd0_ok (lf0_ok tt23) (nd0_ok (lf0_ok tt24) (lf0_ok tt25)))) (nd0_ok (nd0_ok (lf0_ok tt26) (lf0_ok tt27)) (nd0_ok (lf0_ok tt28) (nd0_ok (lf0_ok tt29) (lf0_ok tt30))))) (nd0_ok (nd0_ok (nd0_ok (lf0_ok tt31) (lf0_ok tt32)) (nd0_ok (lf0_ok tt33) (nd0_ok (lf0_ok tt34) (lf0_ok tt35)))) (nd0_ok (nd0_ok (lf0_ok tt36) (lf0_ok tt37)) (nd0_ok (lf0_ok tt38) (nd0_ok (lf0_ok tt39) (lf0_ok tt40))))))) (nd0_ok (nd0_ok (nd0_ok (nd0_ok (nd0_ok (lf0_ok tt41) (lf0_ok tt42)) (nd0_ok (lf0_ok tt43) (nd0_ok (lf0_ok tt44) (lf0_ok tt45)))) (nd0_ok (nd0_ok (lf0_ok tt46) (lf0_ok tt47)) (nd0_ok (lf0_ok tt48) (nd0_ok (lf0_ok tt49) (lf0_ok tt50))))) (nd0_ok (nd0_ok (nd0_ok (lf0_ok tt51) (lf0_ok tt52)) (nd0_ok (lf0_ok tt53) (nd0_ok (lf0_ok tt54) (lf0_ok tt56)))) (nd0_ok (nd0_ok (lf0_ok tt57) (lf0_ok tt58)) (nd0_ok (lf0_ok tt59) (nd0_ok (lf0_ok tt61) (lf0_ok tt62)))))) (nd0_ok (nd0_ok (nd0_ok (nd0_ok (lf0_ok tt63) (lf0_ok tt64)) (nd0_ok (lf0_ok tt65) (nd0_ok (lf0_ok tt66) (lf0_ok tt67)))) (nd0_ok (nd0_ok (lf0_ok tt68) (lf0_ok tt70)) (nd0_ok (lf0_ok tt71) (nd0_ok (lf0_ok tt72) (lf0_ok tt73))))) (nd0_ok (nd0_ok (nd0_ok (lf0_ok tt74) (lf0_ok tt75)) (nd0_ok (lf0_ok tt76) (nd0_ok (lf0_ok tt77) (lf0_ok tt78)))) (nd0_ok (nd0_ok (lf0_ok tt79) (lf0_ok tt80)) (nd0_ok (lf0_ok tt81) (nd0_ok (lf0_ok tt82) (lf0_ok tt84)))))))) (nd0_ok (nd0_ok (nd0_ok (nd0_ok (nd0_ok (nd0_ok (lf0_ok tt85) (lf0_ok tt86)) (nd0_ok (lf0_ok tt87) (nd0_ok (lf0_ok tt88) (lf0_ok tt89)))) (nd0_ok (nd0_ok (lf0_ok tt90) (lf0_ok tt91)) (nd0_ok (lf0_ok tt92) (nd0_ok (lf0_ok tt93) (lf0_ok tt94))))) (nd0_ok (nd0_ok (nd0_ok (lf0_ok tt95) (lf0_ok tt96)) (nd0_ok (lf0_ok tt97) (nd0_ok (lf0_ok tt98) (lf0_ok tt99)))) (nd0_ok (nd0_ok (lf0_ok tt100) (lf0_ok tt101)) (nd0_ok (lf0_ok tt102) (nd0_ok (lf0_ok tt103) (lf0_ok tt104)))))) (nd0_ok (nd0_ok (nd0_ok (nd0_ok (lf0_ok tt105) (lf0_ok tt106)) (nd0_ok (lf0_ok tt107) (nd0_ok (lf0_ok tt108) (lf0_ok tt110)))) (nd0_ok (nd0_ok (lf0_ok tt112) (lf0_ok tt114)) (nd0_ok (lf0_ok tt115) (nd0_ok (lf0_ok tt116) (lf0_ok tt117))))) (nd0_ok (nd0_ok (nd0_ok (lf0_ok tt119) (lf0_ok tt120)) (nd0_ok (lf0_ok tt121) (nd0_ok (lf0_ok tt122) (lf0_ok tt123)))) (nd0_ok (nd0_ok (lf0_ok tt125) (lf0_ok tt126)) (nd0_ok (lf0_ok tt127) (nd0_ok (lf0_ok tt128) (lf0_ok tt130))))))) (nd0_ok (nd0_ok (nd0_ok (nd0_ok (nd0_ok (lf0_ok tt131) (lf0_ok tt132)) (nd0_ok (lf0_ok tt133) (nd0_ok (lf0_ok tt134) (lf0_ok tt136)))) (nd0_ok (nd0_ok (lf0_ok tt138) (lf0_ok tt139)) (nd0_ok (lf0_ok tt140) (nd0_ok (lf0_ok tt142) (lf0_ok tt143))))) (nd0_ok (nd0_ok (nd0_ok (lf0_ok tt144) (lf0_ok tt145)) (nd0_ok (lf0_ok tt146) (nd0_ok (lf0_ok tt148) (lf0_ok tt150)))) (nd0_ok (nd0_ok (lf0_ok tt152) (lf0_ok tt153)) (nd0_ok (lf0_ok tt154) (nd0_ok (lf0_ok tt155) (lf0_ok tt156)))))) (nd0_ok (nd0_ok (nd0_ok (nd0_ok (lf0_ok tt157) (lf0_ok tt158)) (nd0_ok (lf0_ok tt159) (nd0_ok (lf0_ok tt160) (lf0_ok tt162)))) (nd0_ok (nd0_ok (lf0_ok tt163) (lf0_ok tt164)) (nd0_ok (lf0_ok tt165) (nd0_ok (lf0_ok tt166) (lf0_ok tt167))))) (nd0_ok (nd0_ok (nd0_ok (lf0_ok tt168) (lf0_ok tt172)) (nd0_ok (lf0_ok tt173) (nd0_ok (lf0_ok tt174) (lf0_ok tt175)))) (nd0_ok (nd0_ok (lf0_ok tt176) (nd0_ok (lf0_ok tt177) (lf0_ok tt178))) (nd0_ok (lf0_ok tt179) (nd0_ok (lf0_ok tt180) (lf0_ok tt181)))))))))
theorem ek2 : EKOk Try.prog 2 (.int) := ⟨_, Try.underlying2⟩
theorem ek3 : EKOk Try.prog 3 (.int) := ⟨_, Try.underlying3⟩
theorem ek4 : EKOk Try.prog 4 (.bool) := Try.underlying4
theorem ek5 : EKOk Try.prog 5 (.int) := ⟨_, Try.underlying5⟩
theorem ek9 : EKOk Try.prog 9 (.str) := Try.underlying9
theorem ek21 : EKOk Try.prog 21 (.int) := ⟨_, Try.underlying21⟩
theorem ek26 : EKOk Try.prog 26 (.int) := ⟨_, Try.underlying26⟩
theorem ek27 : EKOk Try.prog 27 (.int) := ⟨_, Try.underlying27⟩
theorem ek28 : EKOk Try.prog 28 (.struct [(0, 26), (1, 26), (2, 3), (3, 3), (4, 3), (5, 27)]) := by exact (⟨by kernel_rfl, by kernel_rfl, by kernel_rfl⟩ : EKS Try.prog 28 [(0, 26), (1, 26), (2, 3), (3, 3), (4, 3), (5, 27)])
theorem ek29 : EKOk Try.prog 29 (.struct [(0, 26), (1, 26), (2, 3), (3, 3), (4, 3), (5, 27)]) := by exact (⟨by kernel_rfl, by kernel_rfl, by kernel_rfl⟩ : EKS Try.prog 29 [(0, 26), (1, 26), (2, 3), (3, 3), (4, 3), (5, 27)])
theorem ek34 : EKOk Try.prog 34 (.int) := ⟨_, Try.underlying34⟩
theorem ek86 : EKOk Try.prog 86 (.int) := ⟨_, Try.underlying86⟩
theorem ek91 : EKOk Try.prog 91 (.struct [(0, 3), (1, 3), (2, 3)]) := by exact (⟨by kernel_rfl, by kernel_rfl, by kernel_rfl⟩ : EKS Try.prog 91 [(0, 3), (1, 3), (2, 3)])
theorem ek92 : EKOk Try.prog 92 (.struct [(0, 3), (1, 3), (2, 3)]) := by exact (⟨by kernel_rfl, by kernel_rfl, by kernel_rfl⟩ : EKS Try.prog 92 [(0, 3), (1, 3), (2, 3)])
theorem ek93 : EKOk Try.prog 93 (.struct [(0, 3), (1, 26), (2, 26)]) := by exact (⟨by kernel_rfl, by kernel_rfl, by kernel_rfl⟩ : EKS Try.prog 93 [(0, 3), (1, 26), (2, 26)])
theorem ek94 : EKOk Try.prog 94 (.struct [(0, 3), (1, 26), (2, 26)]) := by exact (⟨by kernel_rfl, by kernel_rfl, by kernel_rfl⟩ : EKS Try.prog 94 [(0, 3), (1, 26), (2, 26)])
theorem ek95 : EKOk Try.prog 95 (.struct [(0, 3), (1, 3), (2, 3), (3, 94), (6, 94)]) := by exact (⟨by kernel_rfl, by kernel_rfl, by kernel_rfl⟩ : EKS Try.prog 95 [(0, 3), (1, 3), (2, 3), (3, 94), (6, 94)])
theorem ek96 : EKOk Try.prog 96 (.struct [(0, 3), (1, 3), (2, 3), (3, 94), (6, 94)]) := by exact (⟨by kernel_rfl, by kernel_rfl, by kernel_rfl⟩ : EKS Try.prog 96 [(0, 3), (1, 3), (2, 3), (3, 94), (6, 94)])
theorem ek102 : EKOk Try.prog 102 (.array 4 5) := Try.underlying102
theorem ek103 : EKOk Try.prog 103 (.array 4 5) := Try.underlying103
theorem ek127 : EKOk Try.prog 127 (.struct []) := by exact (⟨by kernel_rfl, by kernel_rfl, by kernel_rfl⟩ : EKS Try.prog 127 [])
theorem ek128 : EKOk Try.prog 128 (.struct []) := by exact (⟨by kernel_rfl, by kernel_rfl, by kernel_rfl⟩ : EKS Try.prog 128 [])
theorem ek163 : EKOk Try.prog 163 (.struct [(0, 94)]) := by exact (⟨by kernel_rfl, by kernel_rfl, by kernel_rfl⟩ : EKS Try.prog 163 [(0, 94)])
theorem ek164 : EKOk Try.prog 164 (.struct [(0, 94)]) := by exact (⟨by kernel_rfl, by kernel_rfl, by kernel_rfl⟩ : EKS Try.prog 164 [(0, 94)])
def et : ET := nd0 91 (nd0 26 (nd0 5 (nd0 3 (lf0 2 (.int)) (nd0 4 (lf0 3 (.int)) (lf0 4 (.bool)))) (nd0 9 (lf0 5 (.int)) (nd0 21 (lf0 9 (.str)) (lf0 21 (.int))))) (nd0 29 (nd0 27 (lf0 26 (.int)) (nd0 28 (lf0 27 (.int)) (lf0 28 (.struct [(0, 26), (1, 26), (2, 3), (3, 3), (4, 3), (5, 27)])))) (nd0 34 (lf0 29 (.struct [(0, 26), (1, 26), (2, 3), (3, 3), (4, 3), (5, 27)])) (nd0 86 (lf0 34 (.int)) (lf0 86 (.int)))))) (nd0 102 (nd0 94 (nd0 92 (lf0 91 (.struct [(0, 3), (1, 3), (2, 3)])) (nd0 93 (lf0 92 (.struct [(0, 3), (1, 3), (2, 3)])) (lf0 93 (.struct [(0, 3), (1, 26), (2, 26)])))) (nd0 95 (lf0 94 (.struct [(0, 3), (1, 26), (2, 26)])) (nd0 96 (lf0 95 (.struct [(0, 3), (1, 3), (2, 3), (3, 94), (6, 94)])) (lf0 96 (.struct [(0, 3), (1, 3), (2, 3), (3, 94), (6, 94)]))))) (nd0 128 (nd0 103 (lf0 102 (.array 4 5)) (nd0 127 (lf0 103 (.array 4 5)) (lf0 127 (.struct [])))) (nd0 163 (lf0 128 (.struct [])) (nd0 164 (lf0 163 (.struct [(0, 94)])) (lf0 164 (.struct [(0, 94)]))))))
theorem et_ok : ET.ok Try.prog et := (nd0_ok (nd0_ok (nd0_ok (nd0_ok (lf0_ok ek2) (nd0_ok (lf0_ok ek3) (lf0_ok ek4))) (nd0_ok (lf0_ok ek5) (nd0_ok (lf0_ok ek9) (lf0_ok ek21)))) (nd0_ok (nd0_ok (lf0_ok ek26) (nd0_ok (lf0_ok ek27) (lf0_ok ek28))) (nd0_ok (lf0_ok ek29) (nd0_ok (lf0_ok ek34) (lf0_ok ek86))))) (nd0_ok (nd0_ok (nd0_ok (lf0_ok ek91) (nd0_ok (lf0_ok ek92) (lf0_ok ek93))) (nd0_ok (lf0_ok ek94) (nd0_ok (lf0_ok ek95) (lf0_ok ek96)))) (nd0_ok (nd0_ok (lf0_ok ek102) (nd0_ok (lf0_ok ek103) (lf0_ok ek127))) (nd0_ok (lf0_ok ek128) (nd0_ok (lf0_ok ek163) (lf0_ok ek164))))))
theorem eg28 : Try.prog.eqGuardType Try.prog.depth 28 = false := by kernel_rfl
theorem eg29 : Try.prog.eqGuardType Try.prog.depth 29 = false := by kernel_rfl
theorem eg91 : Try.prog.eqGuardType Try.prog.depth 91 = false := by kernel_rfl
theorem eg92 : Try.prog.eqGuardType Try.prog.depth 92 = false := by kernel_rfl
theorem eg93 : Try.prog.eqGuardType Try.prog.depth 93 = false := by kernel_rfl
theorem eg94 : Try.prog.eqGuardType Try.prog.depth 94 = false := by kernel_rfl
theorem eg95 : Try.prog.eqGuardType Try.prog.depth 95 = false := by kernel_rfl
theorem eg96 : Try.prog.eqGuardType Try.prog.depth 96 = false := by kernel_rfl
theorem eg102 : Try.prog.eqGuardType Try.prog.depth 102 = false := by kernel_rfl
theorem eg103 : Try.prog.eqGuardType Try.prog.depth 103 = false := by kernel_rfl
theorem eg127 : Try.prog.eqGuardType Try.prog.depth 127 = false := by kernel_rfl
theorem eg128 : Try.prog.eqGuardType Try.prog.depth 128 = false := by kernel_rfl
theorem eg163 : Try.prog.eqGuardType Try.prog.depth 163 = false := by kernel_rfl
theorem eg164 : Try.prog.eqGuardType Try.prog.depth 164 = false := by kernel_rfl
def qt : EqT := nd0 96 (nd0 92 (nd0 29 (lf0 28 (eqF tt et 28)) (nd0 91 (lf0 29 (eqF tt et 29)) (lf0 91 (eqF tt et 91)))) (nd0 94 (nd0 93 (lf0 92 (eqF tt et 92)) (lf0 93 (eqF tt et 93))) (nd0 95 (lf0 94 (eqF tt et 94)) (lf0 95 (eqF tt et 95))))) (nd0 127 (nd0 102 (lf0 96 (eqF tt et 96)) (nd0 103 (lf0 102 (eqF tt et 102)) (lf0 103 (eqF tt et 103)))) (nd0 163 (nd0 128 (lf0 127 (eqF tt et 127)) (lf0 128 (eqF tt et 128))) (nd0 164 (lf0 163 (eqF tt et 163)) (lf0 164 (eqF tt et 164)))))
theorem qt_ok : EqT.ok Try.prog qt := (nd0_ok (nd0_ok (nd0_ok (lf0_ok (eqF_ok tt_ok et_ok eg28)) (nd0_ok (lf0_ok (eqF_ok tt_ok et_ok eg29)) (lf0_ok (eqF_ok tt_ok et_ok eg91)))) (nd0_ok (nd0_ok (lf0_ok (eqF_ok tt_ok et_ok eg92)) (lf0_ok (eqF_ok tt_ok et_ok eg93))) (nd0_ok (lf0_ok (eqF_ok tt_ok et_ok eg94)) (lf0_ok (eqF_ok tt_ok et_ok eg95))))) (nd0_ok (nd0_ok (lf0_ok (eqF_ok tt_ok et_ok eg96)) (nd0_ok (lf0_ok (eqF_ok tt_ok et_ok eg102)) (lf0_ok (eqF_ok tt_ok et_ok eg103)))) (nd0_ok (nd0_ok (lf0_ok (eqF_ok tt_ok et_ok eg127)) (lf0_ok (eqF_ok tt_ok et_ok eg128))) (nd0_ok (lf0_ok (eqF_ok tt_ok et_ok eg163)) (lf0_ok (eqF_ok tt_ok et_ok eg164))))))
def bt : TypeId → Option Nat := nd0 85 (nd0 41 (nd0 21 (nd0 11 (nd0 6 (nd0 3 (nd0 2 (lf0 1 8) (lf0 2 8)) (nd0 4 (lf0 3 8) (nd0 5 (lf0 4 1) (lf0 5 1)))) (nd0 8 (nd0 7 (lf0 6 1) (lf0 7 24)) (nd0 9 (lf0 8 24) (nd0 10 (lf0 9 16) (lf0 10 16))))) (nd0 16 (nd0 13 (nd0 12 (lf0 11 16) (lf0 12 8)) (nd0 14 (lf0 13 24) (nd0 15 (lf0 14 24) (lf0 15 8)))) (nd0 18 (nd0 17 (lf0 16 8) (lf0 17 8)) (nd0 19 (lf0 18 8) (nd0 20 (lf0 19 8) (lf0 20 16)))))) (nd0 31 (nd0 26 (nd0 23 (nd0 22 (lf0 21 4) (lf0 22 24)) (nd0 24 (lf0 23 8) (nd0 25 (lf0 24 8) (lf0 25 8)))) (nd0 28 (nd0 27 (lf0 26 8) (lf0 27 4)) (nd0 29 (lf0 28 48) (nd0 30 (lf0 29 48) (lf0 30 24))))) (nd0 36 (nd0 33 (nd0 32 (lf0 31 72) (lf0 32 72)) (nd0 34 (lf0 33 8) (nd0 35 (lf0 34 8) (lf0 35 8)))) (nd0 38 (nd0 37 (lf0 36 24) (lf0 37 32)) (nd0 39 (lf0 38 32) (nd0 40 (lf0 39 32) (lf0 40 32))))))) (nd0 63 (nd0 51 (nd0 46 (nd0 43 (nd0 42 (lf0 41 32) (lf0 42 32)) (nd0 44 (lf0 43 64) (nd0 45 (lf0 44 64) (lf0 45 24)))) (nd0 48 (nd0 47 (lf0 46 32) (lf0 47 32)) (nd0 49 (lf0 48 24) (nd0 50 (lf0 49 272) (lf0 50 272))))) (nd0 57 (nd0 53 (nd0 52 (lf0 51 24) (lf0 52 8)) (nd0 54 (lf0 53 8) (nd0 56 (lf0 54 8) (lf0 56 8)))) (nd0 59 (nd0 58 (lf0 57 40) (lf0 58 40)) (nd0 61 (lf0 59 8) (nd0 62 (lf0 61 8) (lf0 62 32)))))) (nd0 74 (nd0 68 (nd0 65 (nd0 64 (lf0 63 32) (lf0 64 8)) (nd0 66 (lf0 65 8) (nd0 67 (lf0 66 8) (lf0 67 8)))) (nd0 71 (nd0 70 (lf0 68 8) (lf0 70 8)) (nd0 72 (lf0 71 8) (nd0 73 (lf0 72 8) (lf0 73 8))))) (nd0 79 (nd0 76 (nd0 75 (lf0 74 8) (lf0 75 8)) (nd0 77 (lf0 76 8) (nd0 78 (lf0 77 8) (lf0 78 8)))) (nd0 81 (nd0 80 (lf0 79 8) (lf0 80 8)) (nd0 82 (lf0 81 8) (nd0 84 (lf0 82 8) (lf0 84 8)))))))) (nd0 131 (nd0 105 (nd0 95 (nd0 90 (nd0 87 (nd0 86 (lf0 85 8) (lf0 86 8)) (nd0 88 (lf0 87 24) (nd0 89 (lf0 88 64) (lf0 89 64)))) (nd0 92 (nd0 91 (lf0 90 8) (lf0 91 24)) (nd0 93 (lf0 92 24) (nd0 94 (lf0 93 24) (lf0 94 24))))) (nd0 100 (nd0 97 (nd0 96 (lf0 95 72) (lf0 96 72)) (nd0 98 (lf0 97 8) (nd0 99 (lf0 98 24) (lf0 99 8)))) (nd0 102 (nd0 101 (lf0 100 8) (lf0 101 8)) (nd0 103 (lf0 102 4) (nd0 104 (lf0 103 4) (lf0 104 8)))))) (nd0 119 (nd0 112 (nd0 107 (nd0 106 (lf0 105 8) (lf0 106 8)) (nd0 108 (lf0 107 8) (nd0 110 (lf0 108 8) (lf0 110 8)))) (nd0 115 (nd0 114 (lf0 112 8) (lf0 114 8)) (nd0 116 (lf0 115 8) (nd0 117 (lf0 116 8) (lf0 117 8))))) (nd0 125 (nd0 121 (nd0 120 (lf0 119 8) (lf0 120 8)) (nd0 122 (lf0 121 8) (nd0 123 (lf0 122 8) (lf0 123 8)))) (nd0 127 (nd0 126 (lf0 125 8) (lf0 126 8)) (nd0 128 (lf0 127 0) (nd0 130 (lf0 128 0) (lf0 130 8))))))) (nd0 157 (nd0 144 (nd0 138 (nd0 133 (nd0 132 (lf0 131 24) (lf0 132 24)) (nd0 134 (lf0 133 24) (nd0 136 (lf0 134 24) (lf0 136 8)))) (nd0 140 (nd0 139 (lf0 138 8) (lf0 139 8)) (nd0 142 (lf0 140 8) (nd0 143 (lf0 142 8) (lf0 143 8))))) (nd0 152 (nd0 146 (nd0 145 (lf0 144 8) (lf0 145 8)) (nd0 148 (lf0 146 8) (nd0 150 (lf0 148 8) (lf0 150 8)))) (nd0 154 (nd0 153 (lf0 152 8) (lf0 153 8)) (nd0 155 (lf0 154 8) (nd0 156 (lf0 155 8) (lf0 156 24)))))) (nd0 168 (nd0 163 (nd0 159 (nd0 158 (lf0 157 8) (lf0 158 8)) (nd0 160 (lf0 159 8) (nd0 162 (lf0 160 8) (lf0 162 8)))) (nd0 165 (nd0 164 (lf0 163 24) (lf0 164 24)) (nd0 166 (lf0 165 8) (nd0 167 (lf0 166 8) (lf0 167 40))))) (nd0 176 (nd0 173 (nd0 172 (lf0 168 40) (lf0 172 8)) (nd0 174 (lf0 173 1) (nd0 175 (lf0 174 1) (lf0 175 8)))) (nd0 179 (nd0 177 (lf0 176 8) (nd0 178 (lf0 177 4) (lf0 178 4))) (nd0 180 (lf0 179 48) (nd0 181 (lf0 180 48) (lf0 181 8))))))))
theorem bt_ok : BtOk Try.prog bt := ⟨(nd0_ok (nd0_ok (nd0_ok (nd0_ok (nd0_ok (nd0_ok (nd0_ok (lf0_ok (bt1 (by kernel_rfl))) (lf0_ok (bt1 (by kernel_rfl)))) (nd0_ok (lf0_ok (bt1 (by kernel_rfl))) (nd0_ok (lf0_ok (bt1 (by kernel_rfl))) (lf0_ok (bt1 (by kernel_rfl)))))) (nd0_ok (nd0_ok (lf0_ok (bt1 (by kernel_rfl))) (lf0_ok (bt1 (by kernel_rfl)))) (nd0_ok (lf0_ok (bt1 (by kernel_rfl))) (nd0_ok (lf0_ok (bt1 (by kernel_rfl))) (lf0_ok (bt1 (by kernel_rfl))))))) (nd0_ok (nd0_ok (nd0_ok (lf0_ok (bt1 (by kernel_rfl))) (lf0_ok (bt1 (by kernel_rfl)))) (nd0_ok (lf0_ok (bt1 (by kernel_rfl))) (nd0_ok (lf0_ok (bt1 (by kernel_rfl))) (lf0_ok (bt1 (by kernel_rfl)))))) (nd0_ok (nd0_ok (lf0_ok (bt1 (by kernel_rfl))) (lf0_ok (bt1 (by kernel_rfl)))) (nd0_ok (lf0_ok (bt1 (by kernel_rfl))) (nd0_ok (lf0_ok (bt1 (by kernel_rfl))) (lf0_ok (bt1 (by kernel_rfl)))))))) (nd0_ok (nd0_ok (nd0_ok (nd0_ok (lf0_ok (bt1 (by kernel_rfl))) (lf0_ok (bt1 (by kernel_rfl)))) (nd0_ok (lf0_ok (bt1 (by kernel_rfl))) (nd0_ok (lf0_ok (bt1 (by kernel_rfl))) (lf0_ok (bt1 (by kernel_rfl)))))) (nd0_ok (nd0_ok (lf0_ok (bt1 (by kernel_rfl))) (lf0_ok (bt1 (by kernel_rfl)))) (nd0_ok (lf0_ok (bt1 (by kernel_rfl))) (nd0_ok (lf0_ok (bt1 (by kernel_rfl))) (lf0_ok (bt1 (by kernel_rfl))))))) (nd0_ok (nd0_ok (nd0_ok (lf0_ok (bt1 (by kernel_rfl))) (lf0_ok (bt1 (by kernel_rfl)))) (nd0_ok (lf0_ok (bt1 (by kernel_rfl))) (nd0_ok (lf0_ok (bt1 (by kernel_rfl))) (lf0_ok (bt1 (by kernel_rfl)))))) (nd0_ok (nd0_ok (lf0_ok (bt1 (by kernel_rfl))) (lf0_ok (bt1 (by kernel_rfl)))) (nd0_ok (lf0_ok (bt1 (by kernel_rfl))) (nd0_ok (lf0_ok (bt1 (by kernel_rfl))) (lf0_ok (bt1 (by kernel_rfl))))))))) (nd0_ok (nd0_ok (nd0_ok (nd0_ok (nd0_ok (lf0_ok (bt1 (by kernel_rfl))) (lf0_ok (bt1 (by kernel_rfl)))) (nd0_ok (lf0_ok (bt1 (by kernel_rfl))) (nd0_ok (lf0_ok (bt1 (by kernel_rfl))) (lf0_ok (bt1 (by kernel_rfl)))))) (nd0_ok (nd0_ok (lf0_ok (bt1 (by kernel_rfl))) (lf0_ok (bt1 (by kernel_rfl)))) (nd0_ok (lf0_ok (bt1 (by kernel_rfl))) (nd0_ok (lf0_ok (bt1 (by kernel_rfl))) (lf0_ok (bt1 (by kernel_rfl))))))) (nd0_ok (nd0_ok (nd0_ok (lf0_ok (bt1 (by kernel_rfl))) (lf0_ok (bt1 (by kernel_rfl)))) (nd0_ok (lf0_ok (bt1 (by kernel_rfl))) (nd0_ok (lf0_ok (bt1 (by kernel_rfl))) (lf0_ok (bt1 (by kernel_rfl)))))) (nd0_ok (nd0_ok (lf0_ok (bt1 (by kernel_rfl))) (lf0_ok (bt1 (by kernel_rfl)))) (nd0_ok (lf0_ok (bt1 (by kernel_rfl))) (nd0_ok (lf0_ok (bt1 (by kernel_rfl))) (lf0_ok (bt1 (by kernel_rfl)))))))) (nd0_ok (nd0_ok (nd0_ok (nd0_ok (lf0_ok (bt1 (by kernel_rfl))) (lf0_ok (bt1 (by kernel_rfl)))) (nd0_ok (lf0_ok (bt1 (by kernel_rfl))) (nd0_ok (lf0_ok (bt1 (by kernel_rfl))) (lf0_ok (bt1 (by kernel_rfl)))))) (nd0_ok (nd0_ok (lf0_ok (bt1 (by kernel_rfl))) (lf0_ok (bt1 (by kernel_rfl)))) (nd0_ok (lf0_ok (bt1 (by kernel_rfl))) (nd0_ok (lf0_ok (bt1 (by kernel_rfl))) (lf0_ok (bt1 (by kernel_rfl))))))) (nd0_ok (nd0_ok (nd0_ok (lf0_ok (bt1 (by kernel_rfl))) (lf0_ok (bt1 (by kernel_rfl)))) (nd0_ok (lf0_ok (bt1 (by kernel_rfl))) (nd0_ok (lf0_ok (bt1 (by kernel_rfl))) (lf0_ok (bt1 (by kernel_rfl)))))) (nd0_ok (nd0_ok (lf0_ok (bt1 (by kernel_rfl))) (lf0_ok (bt1 (by kernel_rfl)))) (nd0_ok (lf0_ok (bt1 (by kernel_rfl))) (nd0_ok (lf0_ok (bt1 (by kernel_rfl))) (lf0_ok (bt1 (by kernel_rfl)))))))))) (nd0_ok (nd0_ok (nd0_ok (nd0_ok (nd0_ok (nd0_ok (lf0_ok (bt1 (by kernel_rfl))) (lf0_ok (bt1 (by kernel_rfl)))) (nd0_ok (lf0_ok (bt1 (by kernel_rfl))) (nd0_ok (lf0_ok (bt1 (by kernel_rfl))) (lf0_ok (bt1 (by kernel_rfl)))))) (nd0_ok (nd0_ok (lf0_ok (bt1 (by kernel_rfl))) (lf0_ok (bt1 (by kernel_rfl)))) (nd0_ok (lf0_ok (bt1 (by kernel_rfl))) (nd0_ok (lf0_ok (bt1 (by kernel_rfl))) (lf0_ok (bt1 (by kernel_rfl))))))) (nd0_ok (nd0_ok (nd0_ok (lf0_ok (bt1 (by kernel_rfl))) (lf0_ok (bt1 (by kernel_rfl)))) (nd0_ok (lf0_ok (bt1 (by kernel_rfl))) (nd0_ok (lf0_ok (bt1 (by kernel_rfl))) (lf0_ok (bt1 (by kernel_rfl)))))) (nd0_ok (nd0_ok (lf0_ok (bt1 (by kernel_rfl))) (lf0_ok (bt1 (by kernel_rfl)))) (nd0_ok (lf0_ok (bt1 (by kernel_rfl))) (nd0_ok (lf0_ok (bt1 (by kernel_rfl))) (lf0_ok (bt1 (by kernel_rfl)))))))) (nd0_ok (nd0_ok (nd0_ok (nd0_ok (lf0_ok (bt1 (by kernel_rfl))) (lf0_ok (bt1 (by kernel_rfl)))) (nd0_ok (lf0_ok (bt1 (by kernel_rfl))) (nd0_ok (lf0_ok (bt1 (by kernel_rfl))) (lf0_ok (bt1 (by kernel_rfl)))))) (nd0_ok (nd0_ok (lf0_ok (bt1 (by kernel_rfl))) (lf0_ok (bt1 (by kernel_rfl)))) (nd0_ok (lf0_ok (bt1 (by kernel_rfl))) (nd0_ok (lf0_ok (bt1 (by kernel_rfl))) (lf0_ok (bt1 (by kernel_rfl))))))) (nd0_ok (nd0_ok (nd0_ok (lf0_ok (bt1 (by kernel_rfl))) (lf0_ok (bt1 (by kernel_rfl)))) (nd0_ok (lf0_ok (bt1 (by kernel_rfl))) (nd0_ok (lf0_ok (bt1 (by kernel_rfl))) (lf0_ok (bt1 (by kernel_rfl)))))) (nd0_ok (nd0_ok (lf0_ok (bt1 (by kernel_rfl))) (lf0_ok (bt1 (by kernel_rfl)))) (nd0_ok (lf0_ok (bt1 (by kernel_rfl))) (nd0_ok (lf0_ok (bt1 (by kernel_rfl))) (lf0_ok (bt1 (by kernel_rfl))))))))) (nd0_ok (nd0_ok (nd0_ok (nd0_ok (nd0_ok (lf0_ok (bt1 (by kernel_rfl))) (lf0_ok (bt1 (by kernel_rfl)))) (nd0_ok (lf0_ok (bt1 (by kernel_rfl))) (nd0_ok (lf0_ok (bt1 (by kernel_rfl))) (lf0_ok (bt1 (by kernel_rfl)))))) (nd0_ok (nd0_ok (lf0_ok (bt1 (by kernel_rfl))) (lf0_ok (bt1 (by kernel_rfl)))) (nd0_ok (lf0_ok (bt1 (by kernel_rfl))) (nd0_ok (lf0_ok (bt1 (by kernel_rfl))) (lf0_ok (bt1 (by kernel_rfl))))))) (nd0_ok (nd0_ok (nd0_ok (lf0_ok (bt1 (by kernel_rfl))) (lf0_ok (bt1 (by kernel_rfl)))) (nd0_ok (lf0_ok (bt1 (by kernel_rfl))) (nd0_ok (lf0_ok (bt1 (by kernel_rfl))) (lf0_ok (bt1 (by kernel_rfl)))))) (nd0_ok (nd0_ok (lf0_ok (bt1 (by kernel_rfl))) (lf0_ok (bt1 (by kernel_rfl)))) (nd0_ok (lf0_ok (bt1 (by kernel_rfl))) (nd0_ok (lf0_ok (bt1 (by kernel_rfl))) (lf0_ok (bt1 (by kernel_rfl)))))))) (nd0_ok (nd0_ok (nd0_ok (nd0_ok (lf0_ok (bt1 (by kernel_rfl))) (lf0_ok (bt1 (by kernel_rfl)))) (nd0_ok (lf0_ok (bt1 (by kernel_rfl))) (nd0_ok (lf0_ok (bt1 (by kernel_rfl))) (lf0_ok (bt1 (by kernel_rfl)))))) (nd0_ok (nd0_ok (lf0_ok (bt1 (by kernel_rfl))) (lf0_ok (bt1 (by kernel_rfl)))) (nd0_ok (lf0_ok (bt1 (by kernel_rfl))) (nd0_ok (lf0_ok (bt1 (by kernel_rfl))) (lf0_ok (bt1 (by kernel_rfl))))))) (nd0_ok (nd0_ok (nd0_ok (lf0_ok (bt1 (by kernel_rfl))) (lf0_ok (bt1 (by kernel_rfl)))) (nd0_ok (lf0_ok (bt1 (by kernel_rfl))) (nd0_ok (lf0_ok (bt1 (by kernel_rfl))) (lf0_ok (bt1 (by kernel_rfl)))))) (nd0_ok (nd0_ok (lf0_ok (bt1 (by kernel_rfl))) (nd0_ok (lf0_ok (bt1 (by kernel_rfl))) (lf0_ok (bt1 (by kernel_rfl))))) (nd0_ok (lf0_ok (bt1 (by kernel_rfl))) (nd0_ok (lf0_ok (bt1 (by kernel_rfl))) (lf0_ok (bt1 (by kernel_rfl)))))))))))⟩
def st : TypeId → Option Shp := nd0 48 (nd0 27 (nd0 10 (nd0 6 (nd0 4 (nd0 3 (lf0 2 (.int .i64)) (lf0 3 (.int .i64))) (nd0 5 (lf0 4 .bool) (lf0 5 .byte))) (nd0 8 (nd0 7 (lf0 6 .byte) (lf0 7 (.st [(.int .i64), (.int .i64), .bool, .byte]))) (nd0 9 (lf0 8 (.st [(.int .i64), (.int .i64), .bool, .byte])) (lf0 9 .str)))) (nd0 14 (nd0 12 (nd0 11 (lf0 10 .str) (lf0 11 .str)) (nd0 13 (lf0 12 (.int .u64)) (lf0 13 (.st [.str, (.int .u64)])))) (nd0 22 (nd0 21 (lf0 14 (.st [.str, (.int .u64)])) (lf0 21 (.int .i32))) (nd0 26 (lf0 22 (.sl .byte)) (lf0 26 (.int .u64)))))) (nd0 39 (nd0 34 (nd0 29 (nd0 28 (lf0 27 (.int .u32)) (lf0 28 (.st [(.int .u64), (.int .u64), (.int .i64), (.int .i64), (.int .i64), (.int .u32)]))) (nd0 30 (lf0 29 (.st [(.int .u64), (.int .u64), (.int .i64), (.int .i64), (.int .i64), (.int .u32)])) (lf0 30 (.sl (.st [(.int .i64), (.sl (.st [(.int .i64), (.int .i64), (.sl .byte), (.sl (.st [(.int .i64), (.int .i64), (.int .i64)]))])), (.st [(.int .i64), (.sl .byte)]), (.st [(.int .i64), (.sl .byte)]), (.st [(.int .i64), (.sl .byte)]), (.st [(.int .i64), (.sl .byte), (.int .i64), (.sl .byte)]), (.st [(.int .i64), (.sl (.sl .byte))]), (.sl (.st [(.int .i64), (.int .i64), (.int .i64), (.st [(.int .i64), (.int .u64), (.int .u64)]), (.st [(.int .i64), (.int .u64), (.int .u64)])])), (.sl .byte)]))))) (nd0 37 (nd0 36 (lf0 34 (.int .i64)) (lf0 36 (.sl (.st [(.int .i64), (.int .i64), (.sl .byte), (.sl (.st [(.int .i64), (.int .i64), (.int .i64)]))])))) (nd0 38 (lf0 37 (.st [(.int .i64), (.sl .byte)])) (lf0 38 (.st [(.int .i64), (.sl .byte)]))))) (nd0 43 (nd0 41 (nd0 40 (lf0 39 (.st [(.int .i64), (.sl .byte)])) (lf0 40 (.st [(.int .i64), (.sl .byte)]))) (nd0 42 (lf0 41 (.st [(.int .i64), (.sl .byte)])) (lf0 42 (.st [(.int .i64), (.sl .byte)])))) (nd0 45 (nd0 44 (lf0 43 (.st [(.int .i64), (.sl .byte), (.int .i64), (.sl .byte)])) (lf0 44 (.st [(.int .i64), (.sl .byte), (.int .i64), (.sl .byte)]))) (nd0 46 (lf0 45 (.sl (.sl .byte))) (nd0 47 (lf0 46 (.st [(.int .i64), (.sl (.sl .byte))])) (lf0 47 (.st [(.int .i64), (.sl (.sl .byte))])))))))) (nd0 96 (nd0 86 (nd0 57 (nd0 50 (nd0 49 (lf0 48 (.sl (.st [(.int .i64), (.int .i64), (.int .i64), (.st [(.int .i64), (.int .u64), (.int .u64)]), (.st [(.int .i64), (.int .u64), (.int .u64)])]))) (lf0 49 (.st [(.int .i64), (.sl (.st [(.int .i64), (.int .i64), (.sl .byte), (.sl (.st [(.int .i64), (.int .i64), (.int .i64)]))])), (.st [(.int .i64), (.sl .byte)]), (.st [(.int .i64), (.sl .byte)]), (.st [(.int .i64), (.sl .byte)]), (.st [(.int .i64), (.sl .byte), (.int .i64), (.sl .byte)]), (.st [(.int .i64), (.sl (.sl .byte))]), (.sl (.st [(.int .i64), (.int .i64), (.int .i64), (.st [(.int .i64), (.int .u64), (.int .u64)]), (.st [(.int .i64), (.int .u64), (.int .u64)])])), (.sl .byte)]))) (nd0 51 (lf0 50 (.st [(.int .i64), (.sl (.st [(.int .i64), (.int .i64), (.sl .byte), (.sl (.st [(.int .i64), (.int .i64), (.int .i64)]))])), (.st [(.int .i64), (.sl .byte)]), (.st [(.int .i64), (.sl .byte)]), (.st [(.int .i64), (.sl .byte)]), (.st [(.int .i64), (.sl .byte), (.int .i64), (.sl .byte)]), (.st [(.int .i64), (.sl (.sl .byte))]), (.sl (.st [(.int .i64), (.int .i64), (.int .i64), (.st [(.int .i64), (.int .u64), (.int .u64)]), (.st [(.int .i64), (.int .u64), (.int .u64)])])), (.sl .byte)])) (lf0 51 (.sl (.int .i64))))) (nd0 62 (nd0 58 (lf0 57 (.st [(.int .i64), .bool, (.sl .byte)])) (lf0 58 (.st [(.int .i64), .bool, (.sl .byte)]))) (nd0 63 (lf0 62 (.st [(.sl .byte), (.int .i64)])) (lf0 63 (.st [(.sl .byte), (.int .i64)]))))) (nd0 91 (nd0 88 (nd0 87 (lf0 86 (.int .u64)) (lf0 87 (.sl (.st [(.int .i64), (.int .i64), (.int .i64)])))) (nd0 89 (lf0 88 (.st [(.int .i64), (.int .i64), (.sl .byte), (.sl (.st [(.int .i64), (.int .i64), (.int .i64)]))])) (lf0 89 (.st [(.int .i64), (.int .i64), (.sl .byte), (.sl (.st [(.int .i64), (.int .i64), (.int .i64)]))])))) (nd0 93 (nd0 92 (lf0 91 (.st [(.int .i64), (.int .i64), (.int .i64)])) (lf0 92 (.st [(.int .i64), (.int .i64), (.int .i64)]))) (nd0 94 (lf0 93 (.st [(.int .i64), (.int .u64), (.int .u64)])) (nd0 95 (lf0 94 (.st [(.int .i64), (.int .u64), (.int .u64)])) (lf0 95 (.st [(.int .i64), (.int .i64), (.int .i64), (.st [(.int .i64), (.int .u64), (.int .u64)]), (.st [(.int .i64), (.int .u64), (.int .u64)])]))))))) (nd0 133 (nd0 127 (nd0 102 (nd0 98 (lf0 96 (.st [(.int .i64), (.int .i64), (.int .i64), (.st [(.int .i64), (.int .u64), (.int .u64)]), (.st [(.int .i64), (.int .u64), (.int .u64)])])) (lf0 98 (.sl (.st [(.int .i64), (.sl .byte), (.int .i64), (.sl .byte)])))) (nd0 103 (lf0 102 (.st [.byte, .byte, .byte, .byte])) (lf0 103 (.st [.byte, .byte, .byte, .byte])))) (nd0 131 (nd0 128 (lf0 127 (.st [])) (lf0 128 (.st []))) (nd0 132 (lf0 131 (.st [(.sl .byte)])) (lf0 132 (.st [(.sl .byte)]))))) (nd0 164 (nd0 156 (nd0 134 (lf0 133 (.st [(.st [(.sl .byte)])])) (lf0 134 (.st [(.st [(.sl .byte)])]))) (nd0 163 (lf0 156 (.sl (.int .u64))) (lf0 163 (.st [(.st [(.int .i64), (.int .u64), (.int .u64)])])))) (nd0 174 (nd0 173 (lf0 164 (.st [(.st [(.int .i64), (.int .u64), (.int .u64)])])) (lf0 173 .byte)) (nd0 177 (lf0 174 .byte) (nd0 178 (lf0 177 (.int .i32)) (lf0 178 (.int .i32))))))))
theorem mixed_ok : Try.prog.follows .mixedOrders = true := by kernel_rfl
end Go.Proofs.Ytbdfijdianaghaa.V
