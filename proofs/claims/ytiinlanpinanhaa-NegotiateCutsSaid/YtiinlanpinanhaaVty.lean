import Derived.Test.YtiinlanpinanhaaProg
import Derived.Test.YtiinlanpinanhaaVe
namespace Go.Proofs.Ytiinlanpinanhaa.V
def ti1 : TI := ⟨.other, 1, [.val .nilFunc]⟩
theorem tt1 : TIOk Try.prog 1 ti1 := ⟨by kernel_rfl, by kernel_rfl, fun ρ => by kernel_rfl, by kernel_rfl⟩
def ti2 : TI := ⟨.int .i64, 1, [.int .i64 (.c 0)]⟩
theorem tt2 : TIOk Try.prog 2 ti2 := ⟨by kernel_rfl, by kernel_rfl, fun ρ => by kernel_rfl, by kernel_rfl⟩
def ti3 : TI := ⟨.int .i64, 1, [.int .i64 (.c 0)]⟩
theorem tt3 : TIOk Try.prog 3 ti3 := ⟨by kernel_rfl, by kernel_rfl, fun ρ => by kernel_rfl, by kernel_rfl⟩
def ti4 : TI := ⟨.bool, 1, [.bool (.c false)]⟩
theorem tt4 : TIOk Try.prog 4 ti4 := ⟨by kernel_rfl, by kernel_rfl, fun ρ => by kernel_rfl, by kernel_rfl⟩
def ti5 : TI := ⟨.int .u8, 1, [.int .u8 (.c 0)]⟩
theorem tt5 : TIOk Try.prog 5 ti5 := ⟨by kernel_rfl, by kernel_rfl, fun ρ => by kernel_rfl, by kernel_rfl⟩
def ti6 : TI := ⟨.int .u8, 1, [.int .u8 (.c 0)]⟩
theorem tt6 : TIOk Try.prog 6 ti6 := ⟨by kernel_rfl, by kernel_rfl, fun ρ => by kernel_rfl, by kernel_rfl⟩
def ti7 : TI := ⟨.struct [(0, 2), (1, 3), (2, 4), (3, 6)], 4, [.int .i64 (.c 0), .int .i64 (.c 0), .bool (.c false), .int .u8 (.c 0)]⟩
theorem tt7 : TIOk Try.prog 7 ti7 := ⟨by kernel_rfl, by kernel_rfl, fun ρ => by kernel_rfl, by kernel_rfl⟩
def ti8 : TI := ⟨.struct [(0, 2), (1, 3), (2, 4), (3, 6)], 4, [.int .i64 (.c 0), .int .i64 (.c 0), .bool (.c false), .int .u8 (.c 0)]⟩
theorem tt8 : TIOk Try.prog 8 ti8 := ⟨by kernel_rfl, by kernel_rfl, fun ρ => by kernel_rfl, by kernel_rfl⟩
def ti9 : TI := ⟨.string, 1, [.str (fun _ => ⟨#[]⟩)]⟩
theorem tt9 : TIOk Try.prog 9 ti9 := ⟨by kernel_rfl, by kernel_rfl, fun ρ => by kernel_rfl, by kernel_rfl⟩
def ti10 : TI := ⟨.string, 1, [.str (fun _ => ⟨#[]⟩)]⟩
theorem tt10 : TIOk Try.prog 10 ti10 := ⟨by kernel_rfl, by kernel_rfl, fun ρ => by kernel_rfl, by kernel_rfl⟩
def ti11 : TI := ⟨.string, 1, [.str (fun _ => ⟨#[]⟩)]⟩
theorem tt11 : TIOk Try.prog 11 ti11 := ⟨by kernel_rfl, by kernel_rfl, fun ρ => by kernel_rfl, by kernel_rfl⟩
def ti12 : TI := ⟨.int .u64, 1, [.int .u64 (.c 0)]⟩
theorem tt12 : TIOk Try.prog 12 ti12 := ⟨by kernel_rfl, by kernel_rfl, fun ρ => by kernel_rfl, by kernel_rfl⟩
def ti13 : TI := ⟨.struct [(0, 9), (1, 12)], 2, [.str (fun _ => ⟨#[]⟩), .int .u64 (.c 0)]⟩
theorem tt13 : TIOk Try.prog 13 ti13 := ⟨by kernel_rfl, by kernel_rfl, fun ρ => by kernel_rfl, by kernel_rfl⟩
def ti14 : TI := ⟨.struct [(0, 9), (1, 12)], 2, [.str (fun _ => ⟨#[]⟩), .int .u64 (.c 0)]⟩
theorem tt14 : TIOk Try.prog 14 ti14 := ⟨by kernel_rfl, by kernel_rfl, fun ρ => by kernel_rfl, by kernel_rfl⟩
def ti15 : TI := ⟨.pointer 157, 1, [.val (.pointer none)]⟩
theorem tt15 : TIOk Try.prog 15 ti15 := ⟨by kernel_rfl, by kernel_rfl, fun ρ => by kernel_rfl, by kernel_rfl⟩
def ti16 : TI := ⟨.pointer 160, 1, [.val (.pointer none)]⟩
theorem tt16 : TIOk Try.prog 16 ti16 := ⟨by kernel_rfl, by kernel_rfl, fun ρ => by kernel_rfl, by kernel_rfl⟩
def ti17 : TI := ⟨.pointer 169, 1, [.val (.pointer none)]⟩
theorem tt17 : TIOk Try.prog 17 ti17 := ⟨by kernel_rfl, by kernel_rfl, fun ρ => by kernel_rfl, by kernel_rfl⟩
def ti18 : TI := ⟨.struct [(0, 17)], 1, [.val (.pointer none)]⟩
theorem tt18 : TIOk Try.prog 18 ti18 := ⟨by kernel_rfl, by kernel_rfl, fun ρ => by kernel_rfl, by kernel_rfl⟩
def ti19 : TI := ⟨.struct [(0, 17)], 1, [.val (.pointer none)]⟩
theorem tt19 : TIOk Try.prog 19 ti19 := ⟨by kernel_rfl, by kernel_rfl, fun ρ => by kernel_rfl, by kernel_rfl⟩
def ti20 : TI := ⟨.other, 1, [.val .nilIface]⟩
theorem tt20 : TIOk Try.prog 20 ti20 := ⟨by kernel_rfl, by kernel_rfl, fun ρ => by kernel_rfl, by kernel_rfl⟩
def ti21 : TI := ⟨.int .i32, 1, [.int .i32 (.c 0)]⟩
theorem tt21 : TIOk Try.prog 21 ti21 := ⟨by kernel_rfl, by kernel_rfl, fun ρ => by kernel_rfl, by kernel_rfl⟩
def ti22 : TI := ⟨.slice 5, 1, [.val (.slice none 0 0)]⟩
theorem tt22 : TIOk Try.prog 22 ti22 := ⟨by kernel_rfl, by kernel_rfl, fun ρ => by kernel_rfl, by kernel_rfl⟩
def ti23 : TI := ⟨.other, 1, [.val .nilFunc]⟩
theorem tt23 : TIOk Try.prog 23 ti23 := ⟨by kernel_rfl, by kernel_rfl, fun ρ => by kernel_rfl, by kernel_rfl⟩
def ti24 : TI := ⟨.pointer 94, 1, [.val (.pointer none)]⟩
theorem tt24 : TIOk Try.prog 24 ti24 := ⟨by kernel_rfl, by kernel_rfl, fun ρ => by kernel_rfl, by kernel_rfl⟩
def ti25 : TI := ⟨.other, 1, [.val .nilFunc]⟩
theorem tt25 : TIOk Try.prog 25 ti25 := ⟨by kernel_rfl, by kernel_rfl, fun ρ => by kernel_rfl, by kernel_rfl⟩
def ti26 : TI := ⟨.int .u64, 1, [.int .u64 (.c 0)]⟩
theorem tt26 : TIOk Try.prog 26 ti26 := ⟨by kernel_rfl, by kernel_rfl, fun ρ => by kernel_rfl, by kernel_rfl⟩
def ti27 : TI := ⟨.struct [(0, 3), (1, 26), (2, 26)], 3, [.int .i64 (.c 0), .int .u64 (.c 0), .int .u64 (.c 0)]⟩
theorem tt27 : TIOk Try.prog 27 ti27 := ⟨by kernel_rfl, by kernel_rfl, fun ρ => by kernel_rfl, by kernel_rfl⟩
def ti28 : TI := ⟨.struct [(0, 3), (1, 26), (2, 26)], 3, [.int .i64 (.c 0), .int .u64 (.c 0), .int .u64 (.c 0)]⟩
theorem tt28 : TIOk Try.prog 28 ti28 := ⟨by kernel_rfl, by kernel_rfl, fun ρ => by kernel_rfl, by kernel_rfl⟩
def ti29 : TI := ⟨.struct [(0, 3), (1, 3), (2, 3), (3, 28), (6, 28)], 9, [.int .i64 (.c 0), .int .i64 (.c 0), .int .i64 (.c 0), .int .i64 (.c 0), .int .u64 (.c 0), .int .u64 (.c 0), .int .i64 (.c 0), .int .u64 (.c 0), .int .u64 (.c 0)]⟩
theorem tt29 : TIOk Try.prog 29 ti29 := ⟨by kernel_rfl, by kernel_rfl, fun ρ => by kernel_rfl, by kernel_rfl⟩
def ti30 : TI := ⟨.struct [(0, 3), (1, 3), (2, 3), (3, 28), (6, 28)], 9, [.int .i64 (.c 0), .int .i64 (.c 0), .int .i64 (.c 0), .int .i64 (.c 0), .int .u64 (.c 0), .int .u64 (.c 0), .int .i64 (.c 0), .int .u64 (.c 0), .int .u64 (.c 0)]⟩
theorem tt30 : TIOk Try.prog 30 ti30 := ⟨by kernel_rfl, by kernel_rfl, fun ρ => by kernel_rfl, by kernel_rfl⟩
def ti31 : TI := ⟨.other, 1, [.val .nilFunc]⟩
theorem tt31 : TIOk Try.prog 31 ti31 := ⟨by kernel_rfl, by kernel_rfl, fun ρ => by kernel_rfl, by kernel_rfl⟩
def ti33 : TI := ⟨.other, 1, [.val .nilFunc]⟩
theorem tt33 : TIOk Try.prog 33 ti33 := ⟨by kernel_rfl, by kernel_rfl, fun ρ => by kernel_rfl, by kernel_rfl⟩
def ti34 : TI := ⟨.other, 1, [.val .nilFunc]⟩
theorem tt34 : TIOk Try.prog 34 ti34 := ⟨by kernel_rfl, by kernel_rfl, fun ρ => by kernel_rfl, by kernel_rfl⟩
def ti35 : TI := ⟨.other, 1, [.val .nilFunc]⟩
theorem tt35 : TIOk Try.prog 35 ti35 := ⟨by kernel_rfl, by kernel_rfl, fun ρ => by kernel_rfl, by kernel_rfl⟩
def ti36 : TI := ⟨.int .i64, 1, [.int .i64 (.c 0)]⟩
theorem tt36 : TIOk Try.prog 36 ti36 := ⟨by kernel_rfl, by kernel_rfl, fun ρ => by kernel_rfl, by kernel_rfl⟩
def ti37 : TI := ⟨.other, 1, [.val .nilFunc]⟩
theorem tt37 : TIOk Try.prog 37 ti37 := ⟨by kernel_rfl, by kernel_rfl, fun ρ => by kernel_rfl, by kernel_rfl⟩
def ti38 : TI := ⟨.struct [(0, 28), (3, 28), (6, 3), (7, 3), (8, 3)], 9, [.int .i64 (.c 0), .int .u64 (.c 0), .int .u64 (.c 0), .int .i64 (.c 0), .int .u64 (.c 0), .int .u64 (.c 0), .int .i64 (.c 0), .int .i64 (.c 0), .int .i64 (.c 0)]⟩
theorem tt38 : TIOk Try.prog 38 ti38 := ⟨by kernel_rfl, by kernel_rfl, fun ρ => by kernel_rfl, by kernel_rfl⟩
def ti39 : TI := ⟨.struct [(0, 28), (3, 28), (6, 3), (7, 3), (8, 3)], 9, [.int .i64 (.c 0), .int .u64 (.c 0), .int .u64 (.c 0), .int .i64 (.c 0), .int .u64 (.c 0), .int .u64 (.c 0), .int .i64 (.c 0), .int .i64 (.c 0), .int .i64 (.c 0)]⟩
theorem tt39 : TIOk Try.prog 39 ti39 := ⟨by kernel_rfl, by kernel_rfl, fun ρ => by kernel_rfl, by kernel_rfl⟩
def ti40 : TI := ⟨.other, 1, [.val .nilFunc]⟩
theorem tt40 : TIOk Try.prog 40 ti40 := ⟨by kernel_rfl, by kernel_rfl, fun ρ => by kernel_rfl, by kernel_rfl⟩
def ti41 : TI := ⟨.other, 1, [.val .nilFunc]⟩
theorem tt41 : TIOk Try.prog 41 ti41 := ⟨by kernel_rfl, by kernel_rfl, fun ρ => by kernel_rfl, by kernel_rfl⟩
def ti42 : TI := ⟨.slice 3, 1, [.val (.slice none 0 0)]⟩
theorem tt42 : TIOk Try.prog 42 ti42 := ⟨by kernel_rfl, by kernel_rfl, fun ρ => by kernel_rfl, by kernel_rfl⟩
def ti43 : TI := ⟨.slice 28, 1, [.val (.slice none 0 0)]⟩
theorem tt43 : TIOk Try.prog 43 ti43 := ⟨by kernel_rfl, by kernel_rfl, fun ρ => by kernel_rfl, by kernel_rfl⟩
def ti44 : TI := ⟨.other, 1, [.val .nilFunc]⟩
theorem tt44 : TIOk Try.prog 44 ti44 := ⟨by kernel_rfl, by kernel_rfl, fun ρ => by kernel_rfl, by kernel_rfl⟩
def ti45 : TI := ⟨.other, 1, [.val .nilFunc]⟩
theorem tt45 : TIOk Try.prog 45 ti45 := ⟨by kernel_rfl, by kernel_rfl, fun ρ => by kernel_rfl, by kernel_rfl⟩
def ti46 : TI := ⟨.other, 1, [.val .nilFunc]⟩
theorem tt46 : TIOk Try.prog 46 ti46 := ⟨by kernel_rfl, by kernel_rfl, fun ρ => by kernel_rfl, by kernel_rfl⟩
def ti47 : TI := ⟨.struct [(0, 3), (1, 3), (2, 3)], 3, [.int .i64 (.c 0), .int .i64 (.c 0), .int .i64 (.c 0)]⟩
theorem tt47 : TIOk Try.prog 47 ti47 := ⟨by kernel_rfl, by kernel_rfl, fun ρ => by kernel_rfl, by kernel_rfl⟩
def ti48 : TI := ⟨.struct [(0, 3), (1, 3), (2, 3)], 3, [.int .i64 (.c 0), .int .i64 (.c 0), .int .i64 (.c 0)]⟩
theorem tt48 : TIOk Try.prog 48 ti48 := ⟨by kernel_rfl, by kernel_rfl, fun ρ => by kernel_rfl, by kernel_rfl⟩
def ti49 : TI := ⟨.slice 48, 1, [.val (.slice none 0 0)]⟩
theorem tt49 : TIOk Try.prog 49 ti49 := ⟨by kernel_rfl, by kernel_rfl, fun ρ => by kernel_rfl, by kernel_rfl⟩
def ti50 : TI := ⟨.struct [(0, 3), (1, 3), (2, 22), (3, 49)], 4, [.int .i64 (.c 0), .int .i64 (.c 0), .val (.slice none 0 0), .val (.slice none 0 0)]⟩
theorem tt50 : TIOk Try.prog 50 ti50 := ⟨by kernel_rfl, by kernel_rfl, fun ρ => by kernel_rfl, by kernel_rfl⟩
def ti51 : TI := ⟨.struct [(0, 3), (1, 3), (2, 22), (3, 49)], 4, [.int .i64 (.c 0), .int .i64 (.c 0), .val (.slice none 0 0), .val (.slice none 0 0)]⟩
theorem tt51 : TIOk Try.prog 51 ti51 := ⟨by kernel_rfl, by kernel_rfl, fun ρ => by kernel_rfl, by kernel_rfl⟩
def ti52 : TI := ⟨.slice 51, 1, [.val (.slice none 0 0)]⟩
theorem tt52 : TIOk Try.prog 52 ti52 := ⟨by kernel_rfl, by kernel_rfl, fun ρ => by kernel_rfl, by kernel_rfl⟩
def ti54 : TI := ⟨.other, 1, [.val .nilFunc]⟩
theorem tt54 : TIOk Try.prog 54 ti54 := ⟨by kernel_rfl, by kernel_rfl, fun ρ => by kernel_rfl, by kernel_rfl⟩
def ti55 : TI := ⟨.other, 1, [.val .nilFunc]⟩
theorem tt55 : TIOk Try.prog 55 ti55 := ⟨by kernel_rfl, by kernel_rfl, fun ρ => by kernel_rfl, by kernel_rfl⟩
def ti56 : TI := ⟨.other, 1, [.val .nilFunc]⟩
theorem tt56 : TIOk Try.prog 56 ti56 := ⟨by kernel_rfl, by kernel_rfl, fun ρ => by kernel_rfl, by kernel_rfl⟩
def ti57 : TI := ⟨.other, 1, [.val .nilFunc]⟩
theorem tt57 : TIOk Try.prog 57 ti57 := ⟨by kernel_rfl, by kernel_rfl, fun ρ => by kernel_rfl, by kernel_rfl⟩
def ti58 : TI := ⟨.slice 30, 1, [.val (.slice none 0 0)]⟩
theorem tt58 : TIOk Try.prog 58 ti58 := ⟨by kernel_rfl, by kernel_rfl, fun ρ => by kernel_rfl, by kernel_rfl⟩
def ti59 : TI := ⟨.other, 1, [.val .nilFunc]⟩
theorem tt59 : TIOk Try.prog 59 ti59 := ⟨by kernel_rfl, by kernel_rfl, fun ρ => by kernel_rfl, by kernel_rfl⟩
def ti60 : TI := ⟨.other, 1, [.val .nilFunc]⟩
theorem tt60 : TIOk Try.prog 60 ti60 := ⟨by kernel_rfl, by kernel_rfl, fun ρ => by kernel_rfl, by kernel_rfl⟩
def ti61 : TI := ⟨.slice 58, 1, [.val (.slice none 0 0)]⟩
theorem tt61 : TIOk Try.prog 61 ti61 := ⟨by kernel_rfl, by kernel_rfl, fun ρ => by kernel_rfl, by kernel_rfl⟩
def ti63 : TI := ⟨.other, 1, [.val .nilFunc]⟩
theorem tt63 : TIOk Try.prog 63 ti63 := ⟨by kernel_rfl, by kernel_rfl, fun ρ => by kernel_rfl, by kernel_rfl⟩
def ti64 : TI := ⟨.other, 1, [.val .nilFunc]⟩
theorem tt64 : TIOk Try.prog 64 ti64 := ⟨by kernel_rfl, by kernel_rfl, fun ρ => by kernel_rfl, by kernel_rfl⟩
def ti65 : TI := ⟨.other, 1, [.val .nilFunc]⟩
theorem tt65 : TIOk Try.prog 65 ti65 := ⟨by kernel_rfl, by kernel_rfl, fun ρ => by kernel_rfl, by kernel_rfl⟩
def ti66 : TI := ⟨.other, 1, [.val .nilFunc]⟩
theorem tt66 : TIOk Try.prog 66 ti66 := ⟨by kernel_rfl, by kernel_rfl, fun ρ => by kernel_rfl, by kernel_rfl⟩
def ti67 : TI := ⟨.other, 1, [.val .nilFunc]⟩
theorem tt67 : TIOk Try.prog 67 ti67 := ⟨by kernel_rfl, by kernel_rfl, fun ρ => by kernel_rfl, by kernel_rfl⟩
def ti68 : TI := ⟨.other, 1, [.val .nilFunc]⟩
theorem tt68 : TIOk Try.prog 68 ti68 := ⟨by kernel_rfl, by kernel_rfl, fun ρ => by kernel_rfl, by kernel_rfl⟩
def ti69 : TI := ⟨.other, 1, [.val .nilFunc]⟩
theorem tt69 : TIOk Try.prog 69 ti69 := ⟨by kernel_rfl, by kernel_rfl, fun ρ => by kernel_rfl, by kernel_rfl⟩
def ti70 : TI := ⟨.other, 1, [.val .nilFunc]⟩
theorem tt70 : TIOk Try.prog 70 ti70 := ⟨by kernel_rfl, by kernel_rfl, fun ρ => by kernel_rfl, by kernel_rfl⟩
def ti71 : TI := ⟨.slice 22, 1, [.val (.slice none 0 0)]⟩
theorem tt71 : TIOk Try.prog 71 ti71 := ⟨by kernel_rfl, by kernel_rfl, fun ρ => by kernel_rfl, by kernel_rfl⟩
def ti73 : TI := ⟨.other, 1, [.val .nilFunc]⟩
theorem tt73 : TIOk Try.prog 73 ti73 := ⟨by kernel_rfl, by kernel_rfl, fun ρ => by kernel_rfl, by kernel_rfl⟩
def ti74 : TI := ⟨.other, 1, [.val .nilFunc]⟩
theorem tt74 : TIOk Try.prog 74 ti74 := ⟨by kernel_rfl, by kernel_rfl, fun ρ => by kernel_rfl, by kernel_rfl⟩
def ti75 : TI := ⟨.other, 1, [.val .nilFunc]⟩
theorem tt75 : TIOk Try.prog 75 ti75 := ⟨by kernel_rfl, by kernel_rfl, fun ρ => by kernel_rfl, by kernel_rfl⟩
def ti76 : TI := ⟨.array 2 3, 2, [.int .i64 (.c 0), .int .i64 (.c 0)]⟩
theorem tt76 : TIOk Try.prog 76 ti76 := ⟨by kernel_rfl, by kernel_rfl, fun ρ => by kernel_rfl, by kernel_rfl⟩
def ti77 : TI := ⟨.struct [(0, 28), (3, 28), (6, 28), (9, 28), (12, 3), (13, 3), (14, 76), (16, 76)], 18, [.int .i64 (.c 0), .int .u64 (.c 0), .int .u64 (.c 0), .int .i64 (.c 0), .int .u64 (.c 0), .int .u64 (.c 0), .int .i64 (.c 0), .int .u64 (.c 0), .int .u64 (.c 0), .int .i64 (.c 0), .int .u64 (.c 0), .int .u64 (.c 0), .int .i64 (.c 0), .int .i64 (.c 0), .int .i64 (.c 0), .int .i64 (.c 0), .int .i64 (.c 0), .int .i64 (.c 0)]⟩
theorem tt77 : TIOk Try.prog 77 ti77 := ⟨by kernel_rfl, by kernel_rfl, fun ρ => by kernel_rfl, by kernel_rfl⟩
def ti78 : TI := ⟨.struct [(0, 28), (3, 28), (6, 28), (9, 28), (12, 3), (13, 3), (14, 76), (16, 76)], 18, [.int .i64 (.c 0), .int .u64 (.c 0), .int .u64 (.c 0), .int .i64 (.c 0), .int .u64 (.c 0), .int .u64 (.c 0), .int .i64 (.c 0), .int .u64 (.c 0), .int .u64 (.c 0), .int .i64 (.c 0), .int .u64 (.c 0), .int .u64 (.c 0), .int .i64 (.c 0), .int .i64 (.c 0), .int .i64 (.c 0), .int .i64 (.c 0), .int .i64 (.c 0), .int .i64 (.c 0)]⟩
theorem tt78 : TIOk Try.prog 78 ti78 := ⟨by kernel_rfl, by kernel_rfl, fun ρ => by kernel_rfl, by kernel_rfl⟩
def ti79 : TI := ⟨.other, 1, [.val .nilFunc]⟩
theorem tt79 : TIOk Try.prog 79 ti79 := ⟨by kernel_rfl, by kernel_rfl, fun ρ => by kernel_rfl, by kernel_rfl⟩
def ti81 : TI := ⟨.other, 1, [.val .nilFunc]⟩
theorem tt81 : TIOk Try.prog 81 ti81 := ⟨by kernel_rfl, by kernel_rfl, fun ρ => by kernel_rfl, by kernel_rfl⟩
def ti82 : TI := ⟨.other, 1, [.val .nilFunc]⟩
theorem tt82 : TIOk Try.prog 82 ti82 := ⟨by kernel_rfl, by kernel_rfl, fun ρ => by kernel_rfl, by kernel_rfl⟩
def ti83 : TI := ⟨.slice 91, 1, [.val (.slice none 0 0)]⟩
theorem tt83 : TIOk Try.prog 83 ti83 := ⟨by kernel_rfl, by kernel_rfl, fun ρ => by kernel_rfl, by kernel_rfl⟩
def ti84 : TI := ⟨.other, 1, [.val .nilFunc]⟩
theorem tt84 : TIOk Try.prog 84 ti84 := ⟨by kernel_rfl, by kernel_rfl, fun ρ => by kernel_rfl, by kernel_rfl⟩
def ti86 : TI := ⟨.other, 1, [.val .nilFunc]⟩
theorem tt86 : TIOk Try.prog 86 ti86 := ⟨by kernel_rfl, by kernel_rfl, fun ρ => by kernel_rfl, by kernel_rfl⟩
def ti87 : TI := ⟨.slice 39, 1, [.val (.slice none 0 0)]⟩
theorem tt87 : TIOk Try.prog 87 ti87 := ⟨by kernel_rfl, by kernel_rfl, fun ρ => by kernel_rfl, by kernel_rfl⟩
def ti88 : TI := ⟨.other, 1, [.val .nilFunc]⟩
theorem tt88 : TIOk Try.prog 88 ti88 := ⟨by kernel_rfl, by kernel_rfl, fun ρ => by kernel_rfl, by kernel_rfl⟩
def ti89 : TI := ⟨.slice 78, 1, [.val (.slice none 0 0)]⟩
theorem tt89 : TIOk Try.prog 89 ti89 := ⟨by kernel_rfl, by kernel_rfl, fun ρ => by kernel_rfl, by kernel_rfl⟩
def ti90 : TI := ⟨.struct [(0, 3), (1, 9), (2, 89)], 3, [.int .i64 (.c 0), .str (fun _ => ⟨#[]⟩), .val (.slice none 0 0)]⟩
theorem tt90 : TIOk Try.prog 90 ti90 := ⟨by kernel_rfl, by kernel_rfl, fun ρ => by kernel_rfl, by kernel_rfl⟩
def ti91 : TI := ⟨.struct [(0, 3), (1, 9), (2, 89)], 3, [.int .i64 (.c 0), .str (fun _ => ⟨#[]⟩), .val (.slice none 0 0)]⟩
theorem tt91 : TIOk Try.prog 91 ti91 := ⟨by kernel_rfl, by kernel_rfl, fun ρ => by kernel_rfl, by kernel_rfl⟩
def ti92 : TI := ⟨.other, 1, [.val .nilFunc]⟩
theorem tt92 : TIOk Try.prog 92 ti92 := ⟨by kernel_rfl, by kernel_rfl, fun ρ => by kernel_rfl, by kernel_rfl⟩
def ti93 : TI := ⟨.struct [(0, 22), (1, 3)], 2, [.val (.slice none 0 0), .int .i64 (.c 0)]⟩
theorem tt93 : TIOk Try.prog 93 ti93 := ⟨by kernel_rfl, by kernel_rfl, fun ρ => by kernel_rfl, by kernel_rfl⟩
def ti94 : TI := ⟨.struct [(0, 22), (1, 3)], 2, [.val (.slice none 0 0), .int .i64 (.c 0)]⟩
theorem tt94 : TIOk Try.prog 94 ti94 := ⟨by kernel_rfl, by kernel_rfl, fun ρ => by kernel_rfl, by kernel_rfl⟩
def ti96 : TI := ⟨.other, 1, [.val .nilFunc]⟩
theorem tt96 : TIOk Try.prog 96 ti96 := ⟨by kernel_rfl, by kernel_rfl, fun ρ => by kernel_rfl, by kernel_rfl⟩
def ti97 : TI := ⟨.other, 1, [.val .nilFunc]⟩
theorem tt97 : TIOk Try.prog 97 ti97 := ⟨by kernel_rfl, by kernel_rfl, fun ρ => by kernel_rfl, by kernel_rfl⟩
def ti98 : TI := ⟨.other, 1, [.val .nilFunc]⟩
theorem tt98 : TIOk Try.prog 98 ti98 := ⟨by kernel_rfl, by kernel_rfl, fun ρ => by kernel_rfl, by kernel_rfl⟩
def ti100 : TI := ⟨.other, 1, [.val .nilFunc]⟩
theorem tt100 : TIOk Try.prog 100 ti100 := ⟨by kernel_rfl, by kernel_rfl, fun ρ => by kernel_rfl, by kernel_rfl⟩
def ti101 : TI := ⟨.other, 1, [.val .nilFunc]⟩
theorem tt101 : TIOk Try.prog 101 ti101 := ⟨by kernel_rfl, by kernel_rfl, fun ρ => by kernel_rfl, by kernel_rfl⟩
def ti102 : TI := ⟨.map 48 4, 1, [.val (.map none)]⟩
theorem tt102 : TIOk Try.prog 102 ti102 := ⟨by kernel_rfl, by kernel_rfl, fun ρ => by kernel_rfl, by kernel_rfl⟩
def ti103 : TI := ⟨.other, 1, [.val .nilFunc]⟩
theorem tt103 : TIOk Try.prog 103 ti103 := ⟨by kernel_rfl, by kernel_rfl, fun ρ => by kernel_rfl, by kernel_rfl⟩
def ti104 : TI := ⟨.other, 1, [.val .nilFunc]⟩
theorem tt104 : TIOk Try.prog 104 ti104 := ⟨by kernel_rfl, by kernel_rfl, fun ρ => by kernel_rfl, by kernel_rfl⟩
def ti105 : TI := ⟨.int .u64, 1, [.int .u64 (.c 0)]⟩
theorem tt105 : TIOk Try.prog 105 ti105 := ⟨by kernel_rfl, by kernel_rfl, fun ρ => by kernel_rfl, by kernel_rfl⟩
def ti106 : TI := ⟨.int .u64, 1, [.int .u64 (.c 0)]⟩
theorem tt106 : TIOk Try.prog 106 ti106 := ⟨by kernel_rfl, by kernel_rfl, fun ρ => by kernel_rfl, by kernel_rfl⟩
def ti107 : TI := ⟨.other, 1, [.val .nilFunc]⟩
theorem tt107 : TIOk Try.prog 107 ti107 := ⟨by kernel_rfl, by kernel_rfl, fun ρ => by kernel_rfl, by kernel_rfl⟩
def ti108 : TI := ⟨.other, 1, [.val .nilFunc]⟩
theorem tt108 : TIOk Try.prog 108 ti108 := ⟨by kernel_rfl, by kernel_rfl, fun ρ => by kernel_rfl, by kernel_rfl⟩
def ti109 : TI := ⟨.other, 1, [.val .nilFunc]⟩
theorem tt109 : TIOk Try.prog 109 ti109 := ⟨by kernel_rfl, by kernel_rfl, fun ρ => by kernel_rfl, by kernel_rfl⟩
def ti110 : TI := ⟨.other, 1, [.val .nilFunc]⟩
theorem tt110 : TIOk Try.prog 110 ti110 := ⟨by kernel_rfl, by kernel_rfl, fun ρ => by kernel_rfl, by kernel_rfl⟩
def ti112 : TI := ⟨.other, 1, [.val .nilFunc]⟩
theorem tt112 : TIOk Try.prog 112 ti112 := ⟨by kernel_rfl, by kernel_rfl, fun ρ => by kernel_rfl, by kernel_rfl⟩
def ti113 : TI := ⟨.other, 1, [.val .nilFunc]⟩
theorem tt113 : TIOk Try.prog 113 ti113 := ⟨by kernel_rfl, by kernel_rfl, fun ρ => by kernel_rfl, by kernel_rfl⟩
def ti114 : TI := ⟨.other, 1, [.val .nilFunc]⟩
theorem tt114 : TIOk Try.prog 114 ti114 := ⟨by kernel_rfl, by kernel_rfl, fun ρ => by kernel_rfl, by kernel_rfl⟩
def ti115 : TI := ⟨.other, 1, [.val .nilFunc]⟩
theorem tt115 : TIOk Try.prog 115 ti115 := ⟨by kernel_rfl, by kernel_rfl, fun ρ => by kernel_rfl, by kernel_rfl⟩
def ti116 : TI := ⟨.slice 26, 1, [.val (.slice none 0 0)]⟩
theorem tt116 : TIOk Try.prog 116 ti116 := ⟨by kernel_rfl, by kernel_rfl, fun ρ => by kernel_rfl, by kernel_rfl⟩
def ti117 : TI := ⟨.struct [(0, 28)], 3, [.int .i64 (.c 0), .int .u64 (.c 0), .int .u64 (.c 0)]⟩
theorem tt117 : TIOk Try.prog 117 ti117 := ⟨by kernel_rfl, by kernel_rfl, fun ρ => by kernel_rfl, by kernel_rfl⟩
def ti118 : TI := ⟨.struct [(0, 28)], 3, [.int .i64 (.c 0), .int .u64 (.c 0), .int .u64 (.c 0)]⟩
theorem tt118 : TIOk Try.prog 118 ti118 := ⟨by kernel_rfl, by kernel_rfl, fun ρ => by kernel_rfl, by kernel_rfl⟩
def ti119 : TI := ⟨.other, 1, [.val .nilFunc]⟩
theorem tt119 : TIOk Try.prog 119 ti119 := ⟨by kernel_rfl, by kernel_rfl, fun ρ => by kernel_rfl, by kernel_rfl⟩
def ti120 : TI := ⟨.other, 1, [.val .nilFunc]⟩
theorem tt120 : TIOk Try.prog 120 ti120 := ⟨by kernel_rfl, by kernel_rfl, fun ρ => by kernel_rfl, by kernel_rfl⟩
def ti122 : TI := ⟨.other, 1, [.val .nilFunc]⟩
theorem tt122 : TIOk Try.prog 122 ti122 := ⟨by kernel_rfl, by kernel_rfl, fun ρ => by kernel_rfl, by kernel_rfl⟩
def ti124 : TI := ⟨.other, 1, [.val .nilFunc]⟩
theorem tt124 : TIOk Try.prog 124 ti124 := ⟨by kernel_rfl, by kernel_rfl, fun ρ => by kernel_rfl, by kernel_rfl⟩
def ti126 : TI := ⟨.other, 1, [.val .nilFunc]⟩
theorem tt126 : TIOk Try.prog 126 ti126 := ⟨by kernel_rfl, by kernel_rfl, fun ρ => by kernel_rfl, by kernel_rfl⟩
def ti127 : TI := ⟨.other, 1, [.val .nilFunc]⟩
theorem tt127 : TIOk Try.prog 127 ti127 := ⟨by kernel_rfl, by kernel_rfl, fun ρ => by kernel_rfl, by kernel_rfl⟩
def ti128 : TI := ⟨.other, 1, [.val .nilFunc]⟩
theorem tt128 : TIOk Try.prog 128 ti128 := ⟨by kernel_rfl, by kernel_rfl, fun ρ => by kernel_rfl, by kernel_rfl⟩
def ti129 : TI := ⟨.struct [(0, 30)], 9, [.int .i64 (.c 0), .int .i64 (.c 0), .int .i64 (.c 0), .int .i64 (.c 0), .int .u64 (.c 0), .int .u64 (.c 0), .int .i64 (.c 0), .int .u64 (.c 0), .int .u64 (.c 0)]⟩
theorem tt129 : TIOk Try.prog 129 ti129 := ⟨by kernel_rfl, by kernel_rfl, fun ρ => by kernel_rfl, by kernel_rfl⟩
def ti130 : TI := ⟨.struct [(0, 30)], 9, [.int .i64 (.c 0), .int .i64 (.c 0), .int .i64 (.c 0), .int .i64 (.c 0), .int .u64 (.c 0), .int .u64 (.c 0), .int .i64 (.c 0), .int .u64 (.c 0), .int .u64 (.c 0)]⟩
theorem tt130 : TIOk Try.prog 130 ti130 := ⟨by kernel_rfl, by kernel_rfl, fun ρ => by kernel_rfl, by kernel_rfl⟩
def ti131 : TI := ⟨.other, 1, [.val .nilFunc]⟩
theorem tt131 : TIOk Try.prog 131 ti131 := ⟨by kernel_rfl, by kernel_rfl, fun ρ => by kernel_rfl, by kernel_rfl⟩
def ti132 : TI := ⟨.slice 76, 1, [.val (.slice none 0 0)]⟩
theorem tt132 : TIOk Try.prog 132 ti132 := ⟨by kernel_rfl, by kernel_rfl, fun ρ => by kernel_rfl, by kernel_rfl⟩
def ti133 : TI := ⟨.other, 1, [.val .nilFunc]⟩
theorem tt133 : TIOk Try.prog 133 ti133 := ⟨by kernel_rfl, by kernel_rfl, fun ρ => by kernel_rfl, by kernel_rfl⟩
def ti134 : TI := ⟨.other, 1, [.val .nilFunc]⟩
theorem tt134 : TIOk Try.prog 134 ti134 := ⟨by kernel_rfl, by kernel_rfl, fun ρ => by kernel_rfl, by kernel_rfl⟩
def ti135 : TI := ⟨.other, 1, [.val .nilFunc]⟩
theorem tt135 : TIOk Try.prog 135 ti135 := ⟨by kernel_rfl, by kernel_rfl, fun ρ => by kernel_rfl, by kernel_rfl⟩
def ti136 : TI := ⟨.slice 9, 1, [.val (.slice none 0 0)]⟩
theorem tt136 : TIOk Try.prog 136 ti136 := ⟨by kernel_rfl, by kernel_rfl, fun ρ => by kernel_rfl, by kernel_rfl⟩
def ti137 : TI := ⟨.other, 1, [.val .nilFunc]⟩
theorem tt137 : TIOk Try.prog 137 ti137 := ⟨by kernel_rfl, by kernel_rfl, fun ρ => by kernel_rfl, by kernel_rfl⟩
def ti138 : TI := ⟨.other, 1, [.val .nilFunc]⟩
theorem tt138 : TIOk Try.prog 138 ti138 := ⟨by kernel_rfl, by kernel_rfl, fun ρ => by kernel_rfl, by kernel_rfl⟩
def ti139 : TI := ⟨.other, 1, [.val .nilFunc]⟩
theorem tt139 : TIOk Try.prog 139 ti139 := ⟨by kernel_rfl, by kernel_rfl, fun ρ => by kernel_rfl, by kernel_rfl⟩
def ti141 : TI := ⟨.other, 1, [.val .nilFunc]⟩
theorem tt141 : TIOk Try.prog 141 ti141 := ⟨by kernel_rfl, by kernel_rfl, fun ρ => by kernel_rfl, by kernel_rfl⟩
def ti142 : TI := ⟨.other, 1, [.val .nilFunc]⟩
theorem tt142 : TIOk Try.prog 142 ti142 := ⟨by kernel_rfl, by kernel_rfl, fun ρ => by kernel_rfl, by kernel_rfl⟩
def ti143 : TI := ⟨.other, 1, [.val .nilFunc]⟩
theorem tt143 : TIOk Try.prog 143 ti143 := ⟨by kernel_rfl, by kernel_rfl, fun ρ => by kernel_rfl, by kernel_rfl⟩
def ti144 : TI := ⟨.other, 1, [.val .nilFunc]⟩
theorem tt144 : TIOk Try.prog 144 ti144 := ⟨by kernel_rfl, by kernel_rfl, fun ρ => by kernel_rfl, by kernel_rfl⟩
def ti145 : TI := ⟨.other, 1, [.val .nilFunc]⟩
theorem tt145 : TIOk Try.prog 145 ti145 := ⟨by kernel_rfl, by kernel_rfl, fun ρ => by kernel_rfl, by kernel_rfl⟩
def ti146 : TI := ⟨.other, 1, [.val .nilFunc]⟩
theorem tt146 : TIOk Try.prog 146 ti146 := ⟨by kernel_rfl, by kernel_rfl, fun ρ => by kernel_rfl, by kernel_rfl⟩
def ti147 : TI := ⟨.other, 1, [.val .nilFunc]⟩
theorem tt147 : TIOk Try.prog 147 ti147 := ⟨by kernel_rfl, by kernel_rfl, fun ρ => by kernel_rfl, by kernel_rfl⟩
def ti148 : TI := ⟨.other, 1, [.val .nilFunc]⟩
theorem tt148 : TIOk Try.prog 148 ti148 := ⟨by kernel_rfl, by kernel_rfl, fun ρ => by kernel_rfl, by kernel_rfl⟩
def ti149 : TI := ⟨.other, 1, [.val .nilFunc]⟩
theorem tt149 : TIOk Try.prog 149 ti149 := ⟨by kernel_rfl, by kernel_rfl, fun ρ => by kernel_rfl, by kernel_rfl⟩
def ti151 : TI := ⟨.other, 1, [.val .nilFunc]⟩
theorem tt151 : TIOk Try.prog 151 ti151 := ⟨by kernel_rfl, by kernel_rfl, fun ρ => by kernel_rfl, by kernel_rfl⟩
def ti153 : TI := ⟨.other, 1, [.val .nilFunc]⟩
theorem tt153 : TIOk Try.prog 153 ti153 := ⟨by kernel_rfl, by kernel_rfl, fun ρ => by kernel_rfl, by kernel_rfl⟩
def ti154 : TI := ⟨.other, 1, [.val .nilFunc]⟩
theorem tt154 : TIOk Try.prog 154 ti154 := ⟨by kernel_rfl, by kernel_rfl, fun ρ => by kernel_rfl, by kernel_rfl⟩
def ti155 : TI := ⟨.other, 1, [.val .nilFunc]⟩
theorem tt155 : TIOk Try.prog 155 ti155 := ⟨by kernel_rfl, by kernel_rfl, fun ρ => by kernel_rfl, by kernel_rfl⟩
def ti156 : TI := ⟨.struct [(0, 17), (1, 17), (2, 17), (3, 9)], 4, [.val (.pointer none), .val (.pointer none), .val (.pointer none), .str (fun _ => ⟨#[]⟩)]⟩
theorem tt156 : TIOk Try.prog 156 ti156 := ⟨by kernel_rfl, by kernel_rfl, fun ρ => by kernel_rfl, by kernel_rfl⟩
def ti157 : TI := ⟨.struct [(0, 17), (1, 17), (2, 17), (3, 9)], 4, [.val (.pointer none), .val (.pointer none), .val (.pointer none), .str (fun _ => ⟨#[]⟩)]⟩
theorem tt157 : TIOk Try.prog 157 ti157 := ⟨by kernel_rfl, by kernel_rfl, fun ρ => by kernel_rfl, by kernel_rfl⟩
def ti161 : TI := ⟨.int .u32, 1, [.int .u32 (.c 0)]⟩
theorem tt161 : TIOk Try.prog 161 ti161 := ⟨by kernel_rfl, by kernel_rfl, fun ρ => by kernel_rfl, by kernel_rfl⟩
def ti162 : TI := ⟨.int .u8, 1, [.int .u8 (.c 0)]⟩
theorem tt162 : TIOk Try.prog 162 ti162 := ⟨by kernel_rfl, by kernel_rfl, fun ρ => by kernel_rfl, by kernel_rfl⟩
def ti163 : TI := ⟨.int .u8, 1, [.int .u8 (.c 0)]⟩
theorem tt163 : TIOk Try.prog 163 ti163 := ⟨by kernel_rfl, by kernel_rfl, fun ρ => by kernel_rfl, by kernel_rfl⟩
def ti164 : TI := ⟨.other, 1, [.val .nilFunc]⟩
theorem tt164 : TIOk Try.prog 164 ti164 := ⟨by kernel_rfl, by kernel_rfl, fun ρ => by kernel_rfl, by kernel_rfl⟩
def ti165 : TI := ⟨.pointer 5, 1, [.val (.pointer none)]⟩
theorem tt165 : TIOk Try.prog 165 ti165 := ⟨by kernel_rfl, by kernel_rfl, fun ρ => by kernel_rfl, by kernel_rfl⟩
def ti166 : TI := ⟨.int .i32, 1, [.int .i32 (.c 0)]⟩
theorem tt166 : TIOk Try.prog 166 ti166 := ⟨by kernel_rfl, by kernel_rfl, fun ρ => by kernel_rfl, by kernel_rfl⟩
def ti167 : TI := ⟨.int .i32, 1, [.int .i32 (.c 0)]⟩
theorem tt167 : TIOk Try.prog 167 ti167 := ⟨by kernel_rfl, by kernel_rfl, fun ρ => by kernel_rfl, by kernel_rfl⟩
def ti168 : TI := ⟨.struct [(0, 12), (1, 12), (2, 161), (3, 162), (4, 5), (5, 5), (6, 163), (7, 164), (8, 165), (9, 166), (10, 167)], 11, [.int .u64 (.c 0), .int .u64 (.c 0), .int .u32 (.c 0), .int .u8 (.c 0), .int .u8 (.c 0), .int .u8 (.c 0), .int .u8 (.c 0), .val .nilFunc, .val (.pointer none), .int .i32 (.c 0), .int .i32 (.c 0)]⟩
theorem tt168 : TIOk Try.prog 168 ti168 := ⟨by kernel_rfl, by kernel_rfl, fun ρ => by kernel_rfl, by kernel_rfl⟩
def ti169 : TI := ⟨.struct [(0, 12), (1, 12), (2, 161), (3, 162), (4, 5), (5, 5), (6, 163), (7, 164), (8, 165), (9, 166), (10, 167)], 11, [.int .u64 (.c 0), .int .u64 (.c 0), .int .u32 (.c 0), .int .u8 (.c 0), .int .u8 (.c 0), .int .u8 (.c 0), .int .u8 (.c 0), .val .nilFunc, .val (.pointer none), .int .i32 (.c 0), .int .i32 (.c 0)]⟩
theorem tt169 : TIOk Try.prog 169 ti169 := ⟨by kernel_rfl, by kernel_rfl, fun ρ => by kernel_rfl, by kernel_rfl⟩
def ti170 : TI := ⟨.other, 1, [.val (.pointer none)]⟩
theorem tt170 : TIOk Try.prog 170 ti170 := ⟨by kernel_rfl, by kernel_rfl, fun ρ => by kernel_rfl, by kernel_rfl⟩
/-- The types that this seat's functions meet. -/
def tt : TT := nd0 82 (nd0 40 (nd0 20 (nd0 10 (nd0 5 (nd0 3 (nd0 2 (lf0 1 ti1) (lf0 2 ti2)) (nd0 4 (lf0 3 ti3) (lf0 4 ti4))) (nd0 7 (nd0 6 (lf0 5 ti5) (lf0 6 ti6)) (nd0 8 (lf0 7 ti7) (nd0 9 (lf0 8 ti8) (lf0 9 ti9))))) (nd0 15 (nd0 12 (nd0 11 (lf0 10 ti10) (lf0 11 ti11)) (nd0 13 (lf0 12 ti12) (nd0 14 (lf0 13 ti13) (lf0 14 ti14)))) (nd0 17 (nd0 16 (lf0 15 ti15) (lf0 16 ti16)) (nd0 18 (lf0 17 ti17) (nd0 19 (lf0 18 ti18) (lf0 19 ti19)))))) (nd0 29 (nd0 24 (nd0 22 (nd0 21 (lf0 20 ti20) (lf0 21 ti21)) (nd0 23 (lf0 22 ti22) (lf0 23 ti23))) (nd0 26 (nd0 25 (lf0 24 ti24) (lf0 25 ti25)) (nd0 27 (lf0 26 ti26) (nd0 28 (lf0 27 ti27) (lf0 28 ti28))))) (nd0 35 (nd0 31 (nd0 30 (lf0 29 ti29) (lf0 30 ti30)) (nd0 33 (lf0 31 ti31) (nd0 34 (lf0 33 ti33) (lf0 34 ti34)))) (nd0 37 (nd0 36 (lf0 35 ti35) (lf0 36 ti36)) (nd0 38 (lf0 37 ti37) (nd0 39 (lf0 38 ti38) (lf0 39 ti39))))))) (nd0 60 (nd0 49 (nd0 44 (nd0 42 (nd0 41 (lf0 40 ti40) (lf0 41 ti41)) (nd0 43 (lf0 42 ti42) (lf0 43 ti43))) (nd0 46 (nd0 45 (lf0 44 ti44) (lf0 45 ti45)) (nd0 47 (lf0 46 ti46) (nd0 48 (lf0 47 ti47) (lf0 48 ti48))))) (nd0 55 (nd0 51 (nd0 50 (lf0 49 ti49) (lf0 50 ti50)) (nd0 52 (lf0 51 ti51) (nd0 54 (lf0 52 ti52) (lf0 54 ti54)))) (nd0 57 (nd0 56 (lf0 55 ti55) (lf0 56 ti56)) (nd0 58 (lf0 57 ti57) (nd0 59 (lf0 58 ti58) (lf0 59 ti59)))))) (nd0 70 (nd0 65 (nd0 63 (nd0 61 (lf0 60 ti60) (lf0 61 ti61)) (nd0 64 (lf0 63 ti63) (lf0 64 ti64))) (nd0 67 (nd0 66 (lf0 65 ti65) (lf0 66 ti66)) (nd0 68 (lf0 67 ti67) (nd0 69 (lf0 68 ti68) (lf0 69 ti69))))) (nd0 76 (nd0 73 (nd0 71 (lf0 70 ti70) (lf0 71 ti71)) (nd0 74 (lf0 73 ti73) (nd0 75 (lf0 74 ti74) (lf0 75 ti75)))) (nd0 78 (nd0 77 (lf0 76 ti76) (lf0 77 ti77)) (nd0 79 (lf0 78 ti78) (nd0 81 (lf0 79 ti79) (lf0 81 ti81)))))))) (nd0 127 (nd0 104 (nd0 92 (nd0 87 (nd0 84 (nd0 83 (lf0 82 ti82) (lf0 83 ti83)) (nd0 86 (lf0 84 ti84) (lf0 86 ti86))) (nd0 89 (nd0 88 (lf0 87 ti87) (lf0 88 ti88)) (nd0 90 (lf0 89 ti89) (nd0 91 (lf0 90 ti90) (lf0 91 ti91))))) (nd0 98 (nd0 94 (nd0 93 (lf0 92 ti92) (lf0 93 ti93)) (nd0 96 (lf0 94 ti94) (nd0 97 (lf0 96 ti96) (lf0 97 ti97)))) (nd0 101 (nd0 100 (lf0 98 ti98) (lf0 100 ti100)) (nd0 102 (lf0 101 ti101) (nd0 103 (lf0 102 ti102) (lf0 103 ti103)))))) (nd0 114 (nd0 108 (nd0 106 (nd0 105 (lf0 104 ti104) (lf0 105 ti105)) (nd0 107 (lf0 106 ti106) (lf0 107 ti107))) (nd0 110 (nd0 109 (lf0 108 ti108) (lf0 109 ti109)) (nd0 112 (lf0 110 ti110) (nd0 113 (lf0 112 ti112) (lf0 113 ti113))))) (nd0 119 (nd0 116 (nd0 115 (lf0 114 ti114) (lf0 115 ti115)) (nd0 117 (lf0 116 ti116) (nd0 118 (lf0 117 ti117) (lf0 118 ti118)))) (nd0 122 (nd0 120 (lf0 119 ti119) (lf0 120 ti120)) (nd0 124 (lf0 122 ti122) (nd0 126 (lf0 124 ti124) (lf0 126 ti126))))))) (nd0 147 (nd0 136 (nd0 131 (nd0 129 (nd0 128 (lf0 127 ti127) (lf0 128 ti128)) (nd0 130 (lf0 129 ti129) (lf0 130 ti130))) (nd0 133 (nd0 132 (lf0 131 ti131) (lf0 132 ti132)) (nd0 134 (lf0 133 ti133) (nd0 135 (lf0 134 ti134) (lf0 135 ti135))))) (nd0 142 (nd0 138 (nd0 137 (lf0 136 ti136) (lf0 137 ti137)) (nd0 139 (lf0 138 ti138) (nd0 141 (lf0 139 ti139) (lf0 141 ti141)))) (nd0 144 (nd0 143 (lf0 142 ti142) (lf0 143 ti143)) (nd0 145 (lf0 144 ti144) (nd0 146 (lf0 145 ti145) (lf0 146 ti146)))))) (nd0 161 (nd0 153 (nd0 149 (nd0 148 (lf0 147 ti147) (lf0 148 ti148)) (nd0 151 (lf0 149 ti149) (lf0 151 ti151))) (nd0 155 (nd0 154 (lf0 153 ti153) (lf0 154 ti154)) (nd0 156 (lf0 155 ti155) (nd0 157 (lf0 156 ti156) (lf0 157 ti157))))) (nd0 166 (nd0 163 (nd0 162 (lf0 161 ti161) (lf0 162 ti162)) (nd0 164 (lf0 163 ti163) (nd0 165 (lf0 164 ti164) (lf0 165 ti165)))) (nd0 168 (nd0 167 (lf0 166 ti166) (lf0 167 ti167)) (nd0 169 (lf0 168 ti168) (nd0 170 (lf0 169 ti169) (lf0 170 ti170))))))))
theorem tt_ok : TT.ok Try.prog tt := (nd0_ok (nd0_ok (nd0_ok (nd0_ok (nd0_ok (nd0_ok (nd0_ok (lf0_ok tt1) (lf0_ok tt2)) (nd0_ok (lf0_ok tt3) (lf0_ok tt4))) (nd0_ok (nd0_ok (lf0_ok tt5) (lf0_ok tt6)) (nd0_ok (lf0_ok tt7) (nd0_ok (lf0_ok tt8) (lf0_ok tt9))))) (nd0_ok (nd0_ok (nd0_ok (lf0_ok tt10) (lf0_ok tt11)) (nd0_ok (lf0_ok tt12) (nd0_ok (lf0_ok tt13) (lf0_ok tt14)))) (nd0_ok (nd0_ok (lf0_ok tt15) (lf0_ok tt16)) (nd0_ok (lf0_ok tt17) (nd0_ok (lf0_ok tt18) (lf0_ok tt19)))))) (nd0_ok (nd0_ok (nd0_ok (nd0_ok (lf0_ok tt20) (lf0_ok tt21)) (nd0_ok (lf0_ok tt22) (lf0_ok tt23))) (nd0_ok (nd0_ok (lf0_ok tt24) (lf0_ok tt25)) (nd0_ok (lf0_ok tt26) (nd0_ok (lf0_ok tt27) (lf0_ok tt28))))) (nd0_ok (nd0_ok (nd0_ok (lf0_ok tt29) (lf0_ok tt30)) (nd0_ok (lf0_ok tt31) (nd0_ok (lf0_ok tt33) (lf0_ok tt34)))) (nd0_ok (nd0_ok (lf0_ok tt35) (lf0_ok tt36)) (nd0_ok (lf0_ok tt37) (nd0_ok (lf0_ok tt38) (lf0_ok tt39))))))) (nd0_ok (nd0_ok (nd0_ok (nd0_ok (nd0_ok (lf0_ok tt40) (lf0_ok tt41)) (nd0_ok (lf0_ok tt42) (lf0_ok tt43))) (nd0_ok (nd0_ok (lf0_ok tt44) (lf0_ok tt45)) (nd0_ok (lf0_ok tt46) (nd0_ok (lf0_ok tt47) (lf0_ok tt48))))) (nd0_ok (nd0_ok (nd0_ok (lf0_ok tt49) (lf0_ok tt50)) (nd0_ok (lf0_ok tt51) (nd0_ok (lf0_ok tt52) (lf0_ok tt54)))) (nd0_ok (nd0_ok (lf0_ok tt55) (lf0_ok tt56)) (nd0_ok (lf0_ok tt57) (nd0_ok (lf0_ok tt58) (lf0_ok tt59)))))) (nd0_ok (nd0_ok (nd0_ok (nd0_ok (lf0_ok tt60) (lf0_ok tt61)) (nd0_ok (lf0_ok tt63) (lf0_ok tt64))) (nd0_ok (nd0_ok (lf0_ok tt65) (lf0_ok tt66)) (nd0_ok (lf0_ok tt67) (nd0_ok (lf0_ok tt68) (lf0_ok tt69))))) (nd0_ok (nd0_ok (nd0_ok (lf0_ok tt70) (lf0_ok tt71)) (nd0_ok (lf0_ok tt73) (nd0_ok (lf0_ok tt74) (lf0_ok tt75)))) (nd0_ok (nd0_ok (lf0_ok tt76) (lf0_ok tt77)) (nd0_ok (lf0_ok tt78) (nd0_ok (lf0_ok tt79) (lf0_ok tt81)))))))) (nd0_ok (nd0_ok (nd0_ok (nd0_ok (nd0_ok (nd0_ok (lf0_ok tt82) (lf0_ok tt83)) (nd0_ok (lf0_ok tt84) (lf0_ok tt86))) (nd0_ok (nd0_ok (lf0_ok tt87) (lf0_ok tt88)) (nd0_ok (lf0_ok tt89) (nd0_ok (lf0_ok tt90) (lf0_ok tt91))))) (nd0_ok (nd0_ok (nd0_ok (lf0_ok tt92) (lf0_ok tt93)) (nd0_ok (lf0_ok tt94) (nd0_ok (lf0_ok tt96) (lf0_ok tt97)))) (nd0_ok (nd0_ok (lf0_ok tt98) (lf0_ok tt100)) (nd0_ok (lf0_ok tt101) (nd0_ok (lf0_ok tt102) (lf0_ok tt103)))))) (nd0_ok (nd0_ok (nd0_ok (nd0_ok (lf0_ok tt104) (lf0_ok tt105)) (nd0_ok (lf0_ok tt106) (lf0_ok tt107))) (nd0_ok (nd0_ok (lf0_ok tt108) (lf0_ok tt109)) (nd0_ok (lf0_ok tt110) (nd0_ok (lf0_ok tt112) (lf0_ok tt113))))) (nd0_ok (nd0_ok (nd0_ok (lf0_ok tt114) (lf0_ok tt115)) (nd0_ok (lf0_ok tt116) (nd0_ok (lf0_ok tt117) (lf0_ok tt118)))) (nd0_ok (nd0_ok (lf0_ok tt119) (lf0_ok tt120)) (nd0_ok (lf0_ok tt122) (nd0_ok (lf0_ok tt124) (lf0_ok tt126))))))) (nd0_ok (nd0_ok (nd0_ok (nd0_ok (nd0_ok (lf0_ok tt127) (lf0_ok tt128)) (nd0_ok (lf0_ok tt129) (lf0_ok tt130))) (nd0_ok (nd0_ok (lf0_ok tt131) (lf0_ok tt132)) (nd0_ok (lf0_ok tt133) (nd0_ok (lf0_ok tt134) (lf0_ok tt135))))) (nd0_ok (nd0_ok (nd0_ok (lf0_ok tt136) (lf0_ok tt137)) (nd0_ok (lf0_ok tt138) (nd0_ok (lf0_ok tt139) (lf0_ok tt141)))) (nd0_ok (nd0_ok (lf0_ok tt142) (lf0_ok tt143)) (nd0_ok (lf0_ok tt144) (nd0_ok (lf0_ok tt145) (lf0_ok tt146)))))) (nd0_ok (nd0_ok (nd0_ok (nd0_ok (lf0_ok tt147) (lf0_ok tt148)) (nd0_ok (lf0_ok tt149) (lf0_ok tt151))) (nd0_ok (nd0_ok (lf0_ok tt153) (lf0_ok tt154)) (nd0_ok (lf0_ok tt155) (nd0_ok (lf0_ok tt156) (lf0_ok tt157))))) (nd0_ok (nd0_ok (nd0_ok (lf0_ok tt161) (lf0_ok tt162)) (nd0_ok (lf0_ok tt163) (nd0_ok (lf0_ok tt164) (lf0_ok tt165)))) (nd0_ok (nd0_ok (lf0_ok tt166) (lf0_ok tt167)) (nd0_ok (lf0_ok tt168) (nd0_ok (lf0_ok tt169) (lf0_ok tt170)))))))))
theorem ek2 : EKOk Try.prog 2 (.int) := ⟨_, Try.underlying2⟩
theorem ek3 : EKOk Try.prog 3 (.int) := ⟨_, Try.underlying3⟩
theorem ek4 : EKOk Try.prog 4 (.bool) := Try.underlying4
theorem ek5 : EKOk Try.prog 5 (.int) := ⟨_, Try.underlying5⟩
theorem ek9 : EKOk Try.prog 9 (.str) := Try.underlying9
theorem ek21 : EKOk Try.prog 21 (.int) := ⟨_, Try.underlying21⟩
theorem ek26 : EKOk Try.prog 26 (.int) := ⟨_, Try.underlying26⟩
theorem ek27 : EKOk Try.prog 27 (.struct [(0, 3), (1, 26), (2, 26)]) := by exact (⟨by kernel_rfl, by kernel_rfl, by kernel_rfl⟩ : EKS Try.prog 27 [(0, 3), (1, 26), (2, 26)])
theorem ek28 : EKOk Try.prog 28 (.struct [(0, 3), (1, 26), (2, 26)]) := by exact (⟨by kernel_rfl, by kernel_rfl, by kernel_rfl⟩ : EKS Try.prog 28 [(0, 3), (1, 26), (2, 26)])
theorem ek29 : EKOk Try.prog 29 (.struct [(0, 3), (1, 3), (2, 3), (3, 28), (6, 28)]) := by exact (⟨by kernel_rfl, by kernel_rfl, by kernel_rfl⟩ : EKS Try.prog 29 [(0, 3), (1, 3), (2, 3), (3, 28), (6, 28)])
theorem ek30 : EKOk Try.prog 30 (.struct [(0, 3), (1, 3), (2, 3), (3, 28), (6, 28)]) := by exact (⟨by kernel_rfl, by kernel_rfl, by kernel_rfl⟩ : EKS Try.prog 30 [(0, 3), (1, 3), (2, 3), (3, 28), (6, 28)])
theorem ek36 : EKOk Try.prog 36 (.int) := ⟨_, Try.underlying36⟩
theorem ek38 : EKOk Try.prog 38 (.struct [(0, 28), (3, 28), (6, 3), (7, 3), (8, 3)]) := by exact (⟨by kernel_rfl, by kernel_rfl, by kernel_rfl⟩ : EKS Try.prog 38 [(0, 28), (3, 28), (6, 3), (7, 3), (8, 3)])
theorem ek39 : EKOk Try.prog 39 (.struct [(0, 28), (3, 28), (6, 3), (7, 3), (8, 3)]) := by exact (⟨by kernel_rfl, by kernel_rfl, by kernel_rfl⟩ : EKS Try.prog 39 [(0, 28), (3, 28), (6, 3), (7, 3), (8, 3)])
theorem ek47 : EKOk Try.prog 47 (.struct [(0, 3), (1, 3), (2, 3)]) := by exact (⟨by kernel_rfl, by kernel_rfl, by kernel_rfl⟩ : EKS Try.prog 47 [(0, 3), (1, 3), (2, 3)])
theorem ek48 : EKOk Try.prog 48 (.struct [(0, 3), (1, 3), (2, 3)]) := by exact (⟨by kernel_rfl, by kernel_rfl, by kernel_rfl⟩ : EKS Try.prog 48 [(0, 3), (1, 3), (2, 3)])
theorem ek76 : EKOk Try.prog 76 (.array 2 3) := Try.underlying76
theorem ek77 : EKOk Try.prog 77 (.struct [(0, 28), (3, 28), (6, 28), (9, 28), (12, 3), (13, 3), (14, 76), (16, 76)]) := by exact (⟨by kernel_rfl, by kernel_rfl, by kernel_rfl⟩ : EKS Try.prog 77 [(0, 28), (3, 28), (6, 28), (9, 28), (12, 3), (13, 3), (14, 76), (16, 76)])
theorem ek78 : EKOk Try.prog 78 (.struct [(0, 28), (3, 28), (6, 28), (9, 28), (12, 3), (13, 3), (14, 76), (16, 76)]) := by exact (⟨by kernel_rfl, by kernel_rfl, by kernel_rfl⟩ : EKS Try.prog 78 [(0, 28), (3, 28), (6, 28), (9, 28), (12, 3), (13, 3), (14, 76), (16, 76)])
theorem ek105 : EKOk Try.prog 105 (.int) := ⟨_, Try.underlying105⟩
theorem ek106 : EKOk Try.prog 106 (.int) := ⟨_, Try.underlying106⟩
theorem ek117 : EKOk Try.prog 117 (.struct [(0, 28)]) := by exact (⟨by kernel_rfl, by kernel_rfl, by kernel_rfl⟩ : EKS Try.prog 117 [(0, 28)])
theorem ek118 : EKOk Try.prog 118 (.struct [(0, 28)]) := by exact (⟨by kernel_rfl, by kernel_rfl, by kernel_rfl⟩ : EKS Try.prog 118 [(0, 28)])
theorem ek129 : EKOk Try.prog 129 (.struct [(0, 30)]) := by exact (⟨by kernel_rfl, by kernel_rfl, by kernel_rfl⟩ : EKS Try.prog 129 [(0, 30)])
theorem ek130 : EKOk Try.prog 130 (.struct [(0, 30)]) := by exact (⟨by kernel_rfl, by kernel_rfl, by kernel_rfl⟩ : EKS Try.prog 130 [(0, 30)])
theorem ek161 : EKOk Try.prog 161 (.int) := ⟨_, Try.underlying161⟩
def et : ET := nd0 39 (nd0 26 (nd0 5 (nd0 3 (lf0 2 (.int)) (nd0 4 (lf0 3 (.int)) (lf0 4 (.bool)))) (nd0 9 (lf0 5 (.int)) (nd0 21 (lf0 9 (.str)) (lf0 21 (.int))))) (nd0 29 (nd0 27 (lf0 26 (.int)) (nd0 28 (lf0 27 (.struct [(0, 3), (1, 26), (2, 26)])) (lf0 28 (.struct [(0, 3), (1, 26), (2, 26)])))) (nd0 36 (nd0 30 (lf0 29 (.struct [(0, 3), (1, 3), (2, 3), (3, 28), (6, 28)])) (lf0 30 (.struct [(0, 3), (1, 3), (2, 3), (3, 28), (6, 28)]))) (nd0 38 (lf0 36 (.int)) (lf0 38 (.struct [(0, 28), (3, 28), (6, 3), (7, 3), (8, 3)])))))) (nd0 105 (nd0 76 (nd0 47 (lf0 39 (.struct [(0, 28), (3, 28), (6, 3), (7, 3), (8, 3)])) (nd0 48 (lf0 47 (.struct [(0, 3), (1, 3), (2, 3)])) (lf0 48 (.struct [(0, 3), (1, 3), (2, 3)])))) (nd0 77 (lf0 76 (.array 2 3)) (nd0 78 (lf0 77 (.struct [(0, 28), (3, 28), (6, 28), (9, 28), (12, 3), (13, 3), (14, 76), (16, 76)])) (lf0 78 (.struct [(0, 28), (3, 28), (6, 28), (9, 28), (12, 3), (13, 3), (14, 76), (16, 76)]))))) (nd0 118 (nd0 106 (lf0 105 (.int)) (nd0 117 (lf0 106 (.int)) (lf0 117 (.struct [(0, 28)])))) (nd0 130 (nd0 129 (lf0 118 (.struct [(0, 28)])) (lf0 129 (.struct [(0, 30)]))) (nd0 161 (lf0 130 (.struct [(0, 30)])) (lf0 161 (.int))))))
theorem et_ok : ET.ok Try.prog et := (nd0_ok (nd0_ok (nd0_ok (nd0_ok (lf0_ok ek2) (nd0_ok (lf0_ok ek3) (lf0_ok ek4))) (nd0_ok (lf0_ok ek5) (nd0_ok (lf0_ok ek9) (lf0_ok ek21)))) (nd0_ok (nd0_ok (lf0_ok ek26) (nd0_ok (lf0_ok ek27) (lf0_ok ek28))) (nd0_ok (nd0_ok (lf0_ok ek29) (lf0_ok ek30)) (nd0_ok (lf0_ok ek36) (lf0_ok ek38))))) (nd0_ok (nd0_ok (nd0_ok (lf0_ok ek39) (nd0_ok (lf0_ok ek47) (lf0_ok ek48))) (nd0_ok (lf0_ok ek76) (nd0_ok (lf0_ok ek77) (lf0_ok ek78)))) (nd0_ok (nd0_ok (lf0_ok ek105) (nd0_ok (lf0_ok ek106) (lf0_ok ek117))) (nd0_ok (nd0_ok (lf0_ok ek118) (lf0_ok ek129)) (nd0_ok (lf0_ok ek130) (lf0_ok ek161))))))
theorem eg27 : Try.prog.eqGuardType Try.prog.depth 27 = false := by kernel_rfl
theorem eg28 : Try.prog.eqGuardType Try.prog.depth 28 = false := by kernel_rfl
theorem eg29 : Try.prog.eqGuardType Try.prog.depth 29 = false := by kernel_rfl
theorem eg30 : Try.prog.eqGuardType Try.prog.depth 30 = false := by kernel_rfl
theorem eg38 : Try.prog.eqGuardType Try.prog.depth 38 = false := by kernel_rfl
theorem eg39 : Try.prog.eqGuardType Try.prog.depth 39 = false := by kernel_rfl
theorem eg47 : Try.prog.eqGuardType Try.prog.depth 47 = false := by kernel_rfl
theorem eg48 : Try.prog.eqGuardType Try.prog.depth 48 = false := by kernel_rfl
theorem eg76 : Try.prog.eqGuardType Try.prog.depth 76 = false := by kernel_rfl
theorem eg77 : Try.prog.eqGuardType Try.prog.depth 77 = false := by kernel_rfl
theorem eg78 : Try.prog.eqGuardType Try.prog.depth 78 = false := by kernel_rfl
theorem eg117 : Try.prog.eqGuardType Try.prog.depth 117 = false := by kernel_rfl
theorem eg118 : Try.prog.eqGuardType Try.prog.depth 118 = false := by kernel_rfl
theorem eg129 : Try.prog.eqGuardType Try.prog.depth 129 = false := by kernel_rfl
theorem eg130 : Try.prog.eqGuardType Try.prog.depth 130 = false := by kernel_rfl
def qt : EqT := nd0 48 (nd0 30 (nd0 28 (lf0 27 (eqF tt et 27)) (nd0 29 (lf0 28 (eqF tt et 28)) (lf0 29 (eqF tt et 29)))) (nd0 39 (nd0 38 (lf0 30 (eqF tt et 30)) (lf0 38 (eqF tt et 38))) (nd0 47 (lf0 39 (eqF tt et 39)) (lf0 47 (eqF tt et 47))))) (nd0 117 (nd0 77 (nd0 76 (lf0 48 (eqF tt et 48)) (lf0 76 (eqF tt et 76))) (nd0 78 (lf0 77 (eqF tt et 77)) (lf0 78 (eqF tt et 78)))) (nd0 129 (nd0 118 (lf0 117 (eqF tt et 117)) (lf0 118 (eqF tt et 118))) (nd0 130 (lf0 129 (eqF tt et 129)) (lf0 130 (eqF tt et 130)))))
theorem qt_ok : EqT.ok Try.prog qt := (nd0_ok (nd0_ok (nd0_ok (lf0_ok (eqF_ok tt_ok et_ok eg27)) (nd0_ok (lf0_ok (eqF_ok tt_ok et_ok eg28)) (lf0_ok (eqF_ok tt_ok et_ok eg29)))) (nd0_ok (nd0_ok (lf0_ok (eqF_ok tt_ok et_ok eg30)) (lf0_ok (eqF_ok tt_ok et_ok eg38))) (nd0_ok (lf0_ok (eqF_ok tt_ok et_ok eg39)) (lf0_ok (eqF_ok tt_ok et_ok eg47))))) (nd0_ok (nd0_ok (nd0_ok (lf0_ok (eqF_ok tt_ok et_ok eg48)) (lf0_ok (eqF_ok tt_ok et_ok eg76))) (nd0_ok (lf0_ok (eqF_ok tt_ok et_ok eg77)) (lf0_ok (eqF_ok tt_ok et_ok eg78)))) (nd0_ok (nd0_ok (lf0_ok (eqF_ok tt_ok et_ok eg117)) (lf0_ok (eqF_ok tt_ok et_ok eg118))) (nd0_ok (lf0_ok (eqF_ok tt_ok et_ok eg129)) (lf0_ok (eqF_ok tt_ok et_ok eg130))))))
def bt : TypeId → Option Nat := nd0 82 (nd0 40 (nd0 20 (nd0 10 (nd0 5 (nd0 3 (nd0 2 (lf0 1 8) (lf0 2 8)) (nd0 4 (lf0 3 8) (lf0 4 1))) (nd0 7 (nd0 6 (lf0 5 1) (lf0 6 1)) (nd0 8 (lf0 7 24) (nd0 9 (lf0 8 24) (lf0 9 16))))) (nd0 15 (nd0 12 (nd0 11 (lf0 10 16) (lf0 11 16)) (nd0 13 (lf0 12 8) (nd0 14 (lf0 13 24) (lf0 14 24)))) (nd0 17 (nd0 16 (lf0 15 8) (lf0 16 8)) (nd0 18 (lf0 17 8) (nd0 19 (lf0 18 8) (lf0 19 8)))))) (nd0 29 (nd0 24 (nd0 22 (nd0 21 (lf0 20 16) (lf0 21 4)) (nd0 23 (lf0 22 24) (lf0 23 8))) (nd0 26 (nd0 25 (lf0 24 8) (lf0 25 8)) (nd0 27 (lf0 26 8) (nd0 28 (lf0 27 24) (lf0 28 24))))) (nd0 35 (nd0 31 (nd0 30 (lf0 29 72) (lf0 30 72)) (nd0 33 (lf0 31 8) (nd0 34 (lf0 33 8) (lf0 34 8)))) (nd0 37 (nd0 36 (lf0 35 8) (lf0 36 8)) (nd0 38 (lf0 37 8) (nd0 39 (lf0 38 72) (lf0 39 72))))))) (nd0 60 (nd0 49 (nd0 44 (nd0 42 (nd0 41 (lf0 40 8) (lf0 41 8)) (nd0 43 (lf0 42 24) (lf0 43 24))) (nd0 46 (nd0 45 (lf0 44 8) (lf0 45 8)) (nd0 47 (lf0 46 8) (nd0 48 (lf0 47 24) (lf0 48 24))))) (nd0 55 (nd0 51 (nd0 50 (lf0 49 24) (lf0 50 64)) (nd0 52 (lf0 51 64) (nd0 54 (lf0 52 24) (lf0 54 8)))) (nd0 57 (nd0 56 (lf0 55 8) (lf0 56 8)) (nd0 58 (lf0 57 8) (nd0 59 (lf0 58 24) (lf0 59 8)))))) (nd0 70 (nd0 65 (nd0 63 (nd0 61 (lf0 60 8) (lf0 61 24)) (nd0 64 (lf0 63 8) (lf0 64 8))) (nd0 67 (nd0 66 (lf0 65 8) (lf0 66 8)) (nd0 68 (lf0 67 8) (nd0 69 (lf0 68 8) (lf0 69 8))))) (nd0 76 (nd0 73 (nd0 71 (lf0 70 8) (lf0 71 24)) (nd0 74 (lf0 73 8) (nd0 75 (lf0 74 8) (lf0 75 8)))) (nd0 78 (nd0 77 (lf0 76 16) (lf0 77 144)) (nd0 79 (lf0 78 144) (nd0 81 (lf0 79 8) (lf0 81 8)))))))) (nd0 127 (nd0 104 (nd0 92 (nd0 87 (nd0 84 (nd0 83 (lf0 82 8) (lf0 83 24)) (nd0 86 (lf0 84 8) (lf0 86 8))) (nd0 89 (nd0 88 (lf0 87 24) (lf0 88 8)) (nd0 90 (lf0 89 24) (nd0 91 (lf0 90 48) (lf0 91 48))))) (nd0 98 (nd0 94 (nd0 93 (lf0 92 8) (lf0 93 32)) (nd0 96 (lf0 94 32) (nd0 97 (lf0 96 8) (lf0 97 8)))) (nd0 101 (nd0 100 (lf0 98 8) (lf0 100 8)) (nd0 102 (lf0 101 8) (nd0 103 (lf0 102 8) (lf0 103 8)))))) (nd0 114 (nd0 108 (nd0 106 (nd0 105 (lf0 104 8) (lf0 105 8)) (nd0 107 (lf0 106 8) (lf0 107 8))) (nd0 110 (nd0 109 (lf0 108 8) (lf0 109 8)) (nd0 112 (lf0 110 8) (nd0 113 (lf0 112 8) (lf0 113 8))))) (nd0 119 (nd0 116 (nd0 115 (lf0 114 8) (lf0 115 8)) (nd0 117 (lf0 116 24) (nd0 118 (lf0 117 24) (lf0 118 24)))) (nd0 122 (nd0 120 (lf0 119 8) (lf0 120 8)) (nd0 124 (lf0 122 8) (nd0 126 (lf0 124 8) (lf0 126 8))))))) (nd0 147 (nd0 136 (nd0 131 (nd0 129 (nd0 128 (lf0 127 8) (lf0 128 8)) (nd0 130 (lf0 129 72) (lf0 130 72))) (nd0 133 (nd0 132 (lf0 131 8) (lf0 132 24)) (nd0 134 (lf0 133 8) (nd0 135 (lf0 134 8) (lf0 135 8))))) (nd0 142 (nd0 138 (nd0 137 (lf0 136 24) (lf0 137 8)) (nd0 139 (lf0 138 8) (nd0 141 (lf0 139 8) (lf0 141 8)))) (nd0 144 (nd0 143 (lf0 142 8) (lf0 143 8)) (nd0 145 (lf0 144 8) (nd0 146 (lf0 145 8) (lf0 146 8)))))) (nd0 161 (nd0 153 (nd0 149 (nd0 148 (lf0 147 8) (lf0 148 8)) (nd0 151 (lf0 149 8) (lf0 151 8))) (nd0 155 (nd0 154 (lf0 153 8) (lf0 154 8)) (nd0 156 (lf0 155 8) (nd0 157 (lf0 156 40) (lf0 157 40))))) (nd0 166 (nd0 163 (nd0 162 (lf0 161 4) (lf0 162 1)) (nd0 164 (lf0 163 1) (nd0 165 (lf0 164 8) (lf0 165 8)))) (nd0 168 (nd0 167 (lf0 166 4) (lf0 167 4)) (nd0 169 (lf0 168 48) (nd0 170 (lf0 169 48) (lf0 170 8))))))))
theorem bt_ok : BtOk Try.prog bt := ⟨(nd0_ok (nd0_ok (nd0_ok (nd0_ok (nd0_ok (nd0_ok (nd0_ok (lf0_ok (bt1 (by kernel_rfl))) (lf0_ok (bt1 (by kernel_rfl)))) (nd0_ok (lf0_ok (bt1 (by kernel_rfl))) (lf0_ok (bt1 (by kernel_rfl))))) (nd0_ok (nd0_ok (lf0_ok (bt1 (by kernel_rfl))) (lf0_ok (bt1 (by kernel_rfl)))) (nd0_ok (lf0_ok (bt1 (by kernel_rfl))) (nd0_ok (lf0_ok (bt1 (by kernel_rfl))) (lf0_ok (bt1 (by kernel_rfl))))))) (nd0_ok (nd0_ok (nd0_ok (lf0_ok (bt1 (by kernel_rfl))) (lf0_ok (bt1 (by kernel_rfl)))) (nd0_ok (lf0_ok (bt1 (by kernel_rfl))) (nd0_ok (lf0_ok (bt1 (by kernel_rfl))) (lf0_ok (bt1 (by kernel_rfl)))))) (nd0_ok (nd0_ok (lf0_ok (bt1 (by kernel_rfl))) (lf0_ok (bt1 (by kernel_rfl)))) (nd0_ok (lf0_ok (bt1 (by kernel_rfl))) (nd0_ok (lf0_ok (bt1 (by kernel_rfl))) (lf0_ok (bt1 (by kernel_rfl)))))))) (nd0_ok (nd0_ok (nd0_ok (nd0_ok (lf0_ok (bt1 (by kernel_rfl))) (lf0_ok (bt1 (by kernel_rfl)))) (nd0_ok (lf0_ok (bt1 (by kernel_rfl))) (lf0_ok (bt1 (by kernel_rfl))))) (nd0_ok (nd0_ok (lf0_ok (bt1 (by kernel_rfl))) (lf0_ok (bt1 (by kernel_rfl)))) (nd0_ok (lf0_ok (bt1 (by kernel_rfl))) (nd0_ok (lf0_ok (bt1 (by kernel_rfl))) (lf0_ok (bt1 (by kernel_rfl))))))) (nd0_ok (nd0_ok (nd0_ok (lf0_ok (bt1 (by kernel_rfl))) (lf0_ok (bt1 (by kernel_rfl)))) (nd0_ok (lf0_ok (bt1 (by kernel_rfl))) (nd0_ok (lf0_ok (bt1 (by kernel_rfl))) (lf0_ok (bt1 (by kernel_rfl)))))) (nd0_ok (nd0_ok (lf0_ok (bt1 (by kernel_rfl))) (lf0_ok (bt1 (by kernel_rfl)))) (nd0_ok (lf0_ok (bt1 (by kernel_rfl))) (nd0_ok (lf0_ok (bt1 (by kernel_rfl))) (lf0_ok (bt1 (by kernel_rfl))))))))) (nd0_ok (nd0_ok (nd0_ok (nd0_ok (nd0_ok (lf0_ok (bt1 (by kernel_rfl))) (lf0_ok (bt1 (by kernel_rfl)))) (nd0_ok (lf0_ok (bt1 (by kernel_rfl))) (lf0_ok (bt1 (by kernel_rfl))))) (nd0_ok (nd0_ok (lf0_ok (bt1 (by kernel_rfl))) (lf0_ok (bt1 (by kernel_rfl)))) (nd0_ok (lf0_ok (bt1 (by kernel_rfl))) (nd0_ok (lf0_ok (bt1 (by kernel_rfl))) (lf0_ok (bt1 (by kernel_rfl))))))) (nd0_ok (nd0_ok (nd0_ok (lf0_ok (bt1 (by kernel_rfl))) (lf0_ok (bt1 (by kernel_rfl)))) (nd0_ok (lf0_ok (bt1 (by kernel_rfl))) (nd0_ok (lf0_ok (bt1 (by kernel_rfl))) (lf0_ok (bt1 (by kernel_rfl)))))) (nd0_ok (nd0_ok (lf0_ok (bt1 (by kernel_rfl))) (lf0_ok (bt1 (by kernel_rfl)))) (nd0_ok (lf0_ok (bt1 (by kernel_rfl))) (nd0_ok (lf0_ok (bt1 (by kernel_rfl))) (lf0_ok (bt1 (by kernel_rfl)))))))) (nd0_ok (nd0_ok (nd0_ok (nd0_ok (lf0_ok (bt1 (by kernel_rfl))) (lf0_ok (bt1 (by kernel_rfl)))) (nd0_ok (lf0_ok (bt1 (by kernel_rfl))) (lf0_ok (bt1 (by kernel_rfl))))) (nd0_ok (nd0_ok (lf0_ok (bt1 (by kernel_rfl))) (lf0_ok (bt1 (by kernel_rfl)))) (nd0_ok (lf0_ok (bt1 (by kernel_rfl))) (nd0_ok (lf0_ok (bt1 (by kernel_rfl))) (lf0_ok (bt1 (by kernel_rfl))))))) (nd0_ok (nd0_ok (nd0_ok (lf0_ok (bt1 (by kernel_rfl))) (lf0_ok (bt1 (by kernel_rfl)))) (nd0_ok (lf0_ok (bt1 (by kernel_rfl))) (nd0_ok (lf0_ok (bt1 (by kernel_rfl))) (lf0_ok (bt1 (by kernel_rfl)))))) (nd0_ok (nd0_ok (lf0_ok (bt1 (by kernel_rfl))) (lf0_ok (bt1 (by kernel_rfl)))) (nd0_ok (lf0_ok (bt1 (by kernel_rfl))) (nd0_ok (lf0_ok (bt1 (by kernel_rfl))) (lf0_ok (bt1 (by kernel_rfl)))))))))) (nd0_ok (nd0_ok (nd0_ok (nd0_ok (nd0_ok (nd0_ok (lf0_ok (bt1 (by kernel_rfl))) (lf0_ok (bt1 (by kernel_rfl)))) (nd0_ok (lf0_ok (bt1 (by kernel_rfl))) (lf0_ok (bt1 (by kernel_rfl))))) (nd0_ok (nd0_ok (lf0_ok (bt1 (by kernel_rfl))) (lf0_ok (bt1 (by kernel_rfl)))) (nd0_ok (lf0_ok (bt1 (by kernel_rfl))) (nd0_ok (lf0_ok (bt1 (by kernel_rfl))) (lf0_ok (bt1 (by kernel_rfl))))))) (nd0_ok (nd0_ok (nd0_ok (lf0_ok (bt1 (by kernel_rfl))) (lf0_ok (bt1 (by kernel_rfl)))) (nd0_ok (lf0_ok (bt1 (by kernel_rfl))) (nd0_ok (lf0_ok (bt1 (by kernel_rfl))) (lf0_ok (bt1 (by kernel_rfl)))))) (nd0_ok (nd0_ok (lf0_ok (bt1 (by kernel_rfl))) (lf0_ok (bt1 (by kernel_rfl)))) (nd0_ok (lf0_ok (bt1 (by kernel_rfl))) (nd0_ok (lf0_ok (bt1 (by kernel_rfl))) (lf0_ok (bt1 (by kernel_rfl)))))))) (nd0_ok (nd0_ok (nd0_ok (nd0_ok (lf0_ok (bt1 (by kernel_rfl))) (lf0_ok (bt1 (by kernel_rfl)))) (nd0_ok (lf0_ok (bt1 (by kernel_rfl))) (lf0_ok (bt1 (by kernel_rfl))))) (nd0_ok (nd0_ok (lf0_ok (bt1 (by kernel_rfl))) (lf0_ok (bt1 (by kernel_rfl)))) (nd0_ok (lf0_ok (bt1 (by kernel_rfl))) (nd0_ok (lf0_ok (bt1 (by kernel_rfl))) (lf0_ok (bt1 (by kernel_rfl))))))) (nd0_ok (nd0_ok (nd0_ok (lf0_ok (bt1 (by kernel_rfl))) (lf0_ok (bt1 (by kernel_rfl)))) (nd0_ok (lf0_ok (bt1 (by kernel_rfl))) (nd0_ok (lf0_ok (bt1 (by kernel_rfl))) (lf0_ok (bt1 (by kernel_rfl)))))) (nd0_ok (nd0_ok (lf0_ok (bt1 (by kernel_rfl))) (lf0_ok (bt1 (by kernel_rfl)))) (nd0_ok (lf0_ok (bt1 (by kernel_rfl))) (nd0_ok (lf0_ok (bt1 (by kernel_rfl))) (lf0_ok (bt1 (by kernel_rfl))))))))) (nd0_ok (nd0_ok (nd0_ok (nd0_ok (nd0_ok (lf0_ok (bt1 (by kernel_rfl))) (lf0_ok (bt1 (by kernel_rfl)))) (nd0_ok (lf0_ok (bt1 (by kernel_rfl))) (lf0_ok (bt1 (by kernel_rfl))))) (nd0_ok (nd0_ok (lf0_ok (bt1 (by kernel_rfl))) (lf0_ok (bt1 (by kernel_rfl)))) (nd0_ok (lf0_ok (bt1 (by kernel_rfl))) (nd0_ok (lf0_ok (bt1 (by kernel_rfl))) (lf0_ok (bt1 (by kernel_rfl))))))) (nd0_ok (nd0_ok (nd0_ok (lf0_ok (bt1 (by kernel_rfl))) (lf0_ok (bt1 (by kernel_rfl)))) (nd0_ok (lf0_ok (bt1 (by kernel_rfl))) (nd0_ok (lf0_ok (bt1 (by kernel_rfl))) (lf0_ok (bt1 (by kernel_rfl)))))) (nd0_ok (nd0_ok (lf0_ok (bt1 (by kernel_rfl))) (lf0_ok (bt1 (by kernel_rfl)))) (nd0_ok (lf0_ok (bt1 (by kernel_rfl))) (nd0_ok (lf0_ok (bt1 (by kernel_rfl))) (lf0_ok (bt1 (by kernel_rfl)))))))) (nd0_ok (nd0_ok (nd0_ok (nd0_ok (lf0_ok (bt1 (by kernel_rfl))) (lf0_ok (bt1 (by kernel_rfl)))) (nd0_ok (lf0_ok (bt1 (by kernel_rfl))) (lf0_ok (bt1 (by kernel_rfl))))) (nd0_ok (nd0_ok (lf0_ok (bt1 (by kernel_rfl))) (lf0_ok (bt1 (by kernel_rfl)))) (nd0_ok (lf0_ok (bt1 (by kernel_rfl))) (nd0_ok (lf0_ok (bt1 (by kernel_rfl))) (lf0_ok (bt1 (by kernel_rfl))))))) (nd0_ok (nd0_ok (nd0_ok (lf0_ok (bt1 (by kernel_rfl))) (lf0_ok (bt1 (by kernel_rfl)))) (nd0_ok (lf0_ok (bt1 (by kernel_rfl))) (nd0_ok (lf0_ok (bt1 (by kernel_rfl))) (lf0_ok (bt1 (by kernel_rfl)))))) (nd0_ok (nd0_ok (lf0_ok (bt1 (by kernel_rfl))) (lf0_ok (bt1 (by kernel_rfl)))) (nd0_ok (lf0_ok (bt1 (by kernel_rfl))) (nd0_ok (lf0_ok (bt1 (by kernel_rfl))) (lf0_ok (bt1 (by kernel_rfl)))))))))))⟩
def st : TypeId → Option Shp := nd0 51 (nd0 22 (nd0 9 (nd0 5 (nd0 3 (lf0 2 (.int .i64)) (nd0 4 (lf0 3 (.int .i64)) (lf0 4 .bool))) (nd0 7 (nd0 6 (lf0 5 .byte) (lf0 6 .byte)) (nd0 8 (lf0 7 (.st [(.int .i64), (.int .i64), .bool, .byte])) (lf0 8 (.st [(.int .i64), (.int .i64), .bool, .byte]))))) (nd0 12 (nd0 10 (lf0 9 .str) (nd0 11 (lf0 10 .str) (lf0 11 .str))) (nd0 14 (nd0 13 (lf0 12 (.int .u64)) (lf0 13 (.st [.str, (.int .u64)]))) (nd0 21 (lf0 14 (.st [.str, (.int .u64)])) (lf0 21 (.int .i32)))))) (nd0 38 (nd0 28 (nd0 26 (lf0 22 (.sl .byte)) (nd0 27 (lf0 26 (.int .u64)) (lf0 27 (.st [(.int .i64), (.int .u64), (.int .u64)])))) (nd0 30 (nd0 29 (lf0 28 (.st [(.int .i64), (.int .u64), (.int .u64)])) (lf0 29 (.st [(.int .i64), (.int .i64), (.int .i64), (.st [(.int .i64), (.int .u64), (.int .u64)]), (.st [(.int .i64), (.int .u64), (.int .u64)])]))) (nd0 36 (lf0 30 (.st [(.int .i64), (.int .i64), (.int .i64), (.st [(.int .i64), (.int .u64), (.int .u64)]), (.st [(.int .i64), (.int .u64), (.int .u64)])])) (lf0 36 (.int .i64))))) (nd0 47 (nd0 42 (nd0 39 (lf0 38 (.st [(.st [(.int .i64), (.int .u64), (.int .u64)]), (.st [(.int .i64), (.int .u64), (.int .u64)]), (.int .i64), (.int .i64), (.int .i64)])) (lf0 39 (.st [(.st [(.int .i64), (.int .u64), (.int .u64)]), (.st [(.int .i64), (.int .u64), (.int .u64)]), (.int .i64), (.int .i64), (.int .i64)]))) (nd0 43 (lf0 42 (.sl (.int .i64))) (lf0 43 (.sl (.st [(.int .i64), (.int .u64), (.int .u64)]))))) (nd0 49 (nd0 48 (lf0 47 (.st [(.int .i64), (.int .i64), (.int .i64)])) (lf0 48 (.st [(.int .i64), (.int .i64), (.int .i64)]))) (nd0 50 (lf0 49 (.sl (.st [(.int .i64), (.int .i64), (.int .i64)]))) (lf0 50 (.st [(.int .i64), (.int .i64), (.sl .byte), (.sl (.st [(.int .i64), (.int .i64), (.int .i64)]))]))))))) (nd0 94 (nd0 78 (nd0 61 (nd0 52 (lf0 51 (.st [(.int .i64), (.int .i64), (.sl .byte), (.sl (.st [(.int .i64), (.int .i64), (.int .i64)]))])) (nd0 58 (lf0 52 (.sl (.st [(.int .i64), (.int .i64), (.sl .byte), (.sl (.st [(.int .i64), (.int .i64), (.int .i64)]))]))) (lf0 58 (.sl (.st [(.int .i64), (.int .i64), (.int .i64), (.st [(.int .i64), (.int .u64), (.int .u64)]), (.st [(.int .i64), (.int .u64), (.int .u64)])]))))) (nd0 76 (nd0 71 (lf0 61 (.sl (.sl (.st [(.int .i64), (.int .i64), (.int .i64), (.st [(.int .i64), (.int .u64), (.int .u64)]), (.st [(.int .i64), (.int .u64), (.int .u64)])])))) (lf0 71 (.sl (.sl .byte)))) (nd0 77 (lf0 76 (.st [(.int .i64), (.int .i64)])) (lf0 77 (.st [(.st [(.int .i64), (.int .u64), (.int .u64)]), (.st [(.int .i64), (.int .u64), (.int .u64)]), (.st [(.int .i64), (.int .u64), (.int .u64)]), (.st [(.int .i64), (.int .u64), (.int .u64)]), (.int .i64), (.int .i64), (.st [(.int .i64), (.int .i64)]), (.st [(.int .i64), (.int .i64)])]))))) (nd0 89 (nd0 83 (lf0 78 (.st [(.st [(.int .i64), (.int .u64), (.int .u64)]), (.st [(.int .i64), (.int .u64), (.int .u64)]), (.st [(.int .i64), (.int .u64), (.int .u64)]), (.st [(.int .i64), (.int .u64), (.int .u64)]), (.int .i64), (.int .i64), (.st [(.int .i64), (.int .i64)]), (.st [(.int .i64), (.int .i64)])])) (nd0 87 (lf0 83 (.sl (.st [(.int .i64), .str, (.sl (.st [(.st [(.int .i64), (.int .u64), (.int .u64)]), (.st [(.int .i64), (.int .u64), (.int .u64)]), (.st [(.int .i64), (.int .u64), (.int .u64)]), (.st [(.int .i64), (.int .u64), (.int .u64)]), (.int .i64), (.int .i64), (.st [(.int .i64), (.int .i64)]), (.st [(.int .i64), (.int .i64)])]))]))) (lf0 87 (.sl (.st [(.st [(.int .i64), (.int .u64), (.int .u64)]), (.st [(.int .i64), (.int .u64), (.int .u64)]), (.int .i64), (.int .i64), (.int .i64)]))))) (nd0 91 (nd0 90 (lf0 89 (.sl (.st [(.st [(.int .i64), (.int .u64), (.int .u64)]), (.st [(.int .i64), (.int .u64), (.int .u64)]), (.st [(.int .i64), (.int .u64), (.int .u64)]), (.st [(.int .i64), (.int .u64), (.int .u64)]), (.int .i64), (.int .i64), (.st [(.int .i64), (.int .i64)]), (.st [(.int .i64), (.int .i64)])]))) (lf0 90 (.st [(.int .i64), .str, (.sl (.st [(.st [(.int .i64), (.int .u64), (.int .u64)]), (.st [(.int .i64), (.int .u64), (.int .u64)]), (.st [(.int .i64), (.int .u64), (.int .u64)]), (.st [(.int .i64), (.int .u64), (.int .u64)]), (.int .i64), (.int .i64), (.st [(.int .i64), (.int .i64)]), (.st [(.int .i64), (.int .i64)])]))]))) (nd0 93 (lf0 91 (.st [(.int .i64), .str, (.sl (.st [(.st [(.int .i64), (.int .u64), (.int .u64)]), (.st [(.int .i64), (.int .u64), (.int .u64)]), (.st [(.int .i64), (.int .u64), (.int .u64)]), (.st [(.int .i64), (.int .u64), (.int .u64)]), (.int .i64), (.int .i64), (.st [(.int .i64), (.int .i64)]), (.st [(.int .i64), (.int .i64)])]))])) (lf0 93 (.st [(.sl .byte), (.int .i64)])))))) (nd0 130 (nd0 116 (nd0 105 (lf0 94 (.st [(.sl .byte), (.int .i64)])) (nd0 106 (lf0 105 (.int .u64)) (lf0 106 (.int .u64)))) (nd0 118 (nd0 117 (lf0 116 (.sl (.int .u64))) (lf0 117 (.st [(.st [(.int .i64), (.int .u64), (.int .u64)])]))) (nd0 129 (lf0 118 (.st [(.st [(.int .i64), (.int .u64), (.int .u64)])])) (lf0 129 (.st [(.st [(.int .i64), (.int .i64), (.int .i64), (.st [(.int .i64), (.int .u64), (.int .u64)]), (.st [(.int .i64), (.int .u64), (.int .u64)])])]))))) (nd0 162 (nd0 136 (nd0 132 (lf0 130 (.st [(.st [(.int .i64), (.int .i64), (.int .i64), (.st [(.int .i64), (.int .u64), (.int .u64)]), (.st [(.int .i64), (.int .u64), (.int .u64)])])])) (lf0 132 (.sl (.st [(.int .i64), (.int .i64)])))) (nd0 161 (lf0 136 (.sl .str)) (lf0 161 (.int .u32)))) (nd0 166 (nd0 163 (lf0 162 .byte) (lf0 163 .byte)) (nd0 167 (lf0 166 (.int .i32)) (lf0 167 (.int .i32)))))))
theorem mixed_ok : Try.prog.follows .mixedOrders = true := by kernel_rfl
end Go.Proofs.Ytiinlanpinanhaa.V
