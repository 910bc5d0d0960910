import Derived.Test.YtihnagafldpbnaaProg
import Derived.Test.YtihnagafldpbnaaVe
namespace Go.Proofs.Ytihnagafldpbnaa.V
def ti1 : TI := ⟨.other, 1, [.val .nilFunc]⟩
theorem tt1 : TIOk Try.prog 1 ti1 := ⟨by kernel_rfl, by kernel_rfl, fun ρ => by kernel_rfl, by kernel_rfl⟩
def ti2 : TI := ⟨.int .i64, 1, [.int .i64 (.c 0)]⟩
theorem tt2 : TIOk Try.prog 2 ti2 := ⟨by kernel_rfl, by kernel_rfl, fun ρ => by kernel_rfl, by kernel_rfl⟩
def ti3 : TI := ⟨.int .i64, 1, [.int .i64 (.c 0)]⟩
theorem tt3 : TIOk Try.prog 3 ti3 := ⟨by kernel_rfl, by kernel_rfl, fun ρ => by kernel_rfl, by kernel_rfl⟩
def ti4 : TI := ⟨.bool, 1, [.bool (.c false)]⟩
theorem tt4 : TIOk Try.prog 4 ti4 := ⟨by kernel_rfl, by kernel_rfl, fun ρ => by kernel_rfl, by kernel_rfl⟩
def ti5 : TI := ⟨.int .u8, 1, [.int .u8 (.c 0)]⟩
theorem tt5 : TIOk Try.prog 5 ti5 := ⟨by kernel_rfl, by kernel_rfl, fun ρ => by kernel_rfl, by kernel_rfl⟩
def ti6 : TI := ⟨.int .u8, 1, [.int .u8 (.c 0)]⟩
theorem tt6 : TIOk Try.prog 6 ti6 := ⟨by kernel_rfl, by kernel_rfl, fun ρ => by kernel_rfl, by kernel_rfl⟩
def ti7 : TI := ⟨.struct [(0, 2), (1, 3), (2, 4), (3, 6)], 4, [.int .i64 (.c 0), .int .i64 (.c 0), .bool (.c false), .int .u8 (.c 0)]⟩
theorem tt7 : TIOk Try.prog 7 ti7 := ⟨by kernel_rfl, by kernel_rfl, fun ρ => by kernel_rfl, by kernel_rfl⟩
def ti8 : TI := ⟨.struct [(0, 2), (1, 3), (2, 4), (3, 6)], 4, [.int .i64 (.c 0), .int .i64 (.c 0), .bool (.c false), .int .u8 (.c 0)]⟩
theorem tt8 : TIOk Try.prog 8 ti8 := ⟨by kernel_rfl, by kernel_rfl, fun ρ => by kernel_rfl, by kernel_rfl⟩
def ti9 : TI := ⟨.string, 1, [.str (fun _ => ⟨#[]⟩)]⟩
theorem tt9 : TIOk Try.prog 9 ti9 := ⟨by kernel_rfl, by kernel_rfl, fun ρ => by kernel_rfl, by kernel_rfl⟩
def ti10 : TI := ⟨.string, 1, [.str (fun _ => ⟨#[]⟩)]⟩
theorem tt10 : TIOk Try.prog 10 ti10 := ⟨by kernel_rfl, by kernel_rfl, fun ρ => by kernel_rfl, by kernel_rfl⟩
def ti11 : TI := ⟨.string, 1, [.str (fun _ => ⟨#[]⟩)]⟩
theorem tt11 : TIOk Try.prog 11 ti11 := ⟨by kernel_rfl, by kernel_rfl, fun ρ => by kernel_rfl, by kernel_rfl⟩
def ti12 : TI := ⟨.int .u64, 1, [.int .u64 (.c 0)]⟩
theorem tt12 : TIOk Try.prog 12 ti12 := ⟨by kernel_rfl, by kernel_rfl, fun ρ => by kernel_rfl, by kernel_rfl⟩
def ti13 : TI := ⟨.struct [(0, 9), (1, 12)], 2, [.str (fun _ => ⟨#[]⟩), .int .u64 (.c 0)]⟩
theorem tt13 : TIOk Try.prog 13 ti13 := ⟨by kernel_rfl, by kernel_rfl, fun ρ => by kernel_rfl, by kernel_rfl⟩
def ti14 : TI := ⟨.struct [(0, 9), (1, 12)], 2, [.str (fun _ => ⟨#[]⟩), .int .u64 (.c 0)]⟩
theorem tt14 : TIOk Try.prog 14 ti14 := ⟨by kernel_rfl, by kernel_rfl, fun ρ => by kernel_rfl, by kernel_rfl⟩
def ti15 : TI := ⟨.pointer 69, 1, [.val (.pointer none)]⟩
theorem tt15 : TIOk Try.prog 15 ti15 := ⟨by kernel_rfl, by kernel_rfl, fun ρ => by kernel_rfl, by kernel_rfl⟩
def ti16 : TI := ⟨.pointer 72, 1, [.val (.pointer none)]⟩
theorem tt16 : TIOk Try.prog 16 ti16 := ⟨by kernel_rfl, by kernel_rfl, fun ρ => by kernel_rfl, by kernel_rfl⟩
def ti17 : TI := ⟨.pointer 82, 1, [.val (.pointer none)]⟩
theorem tt17 : TIOk Try.prog 17 ti17 := ⟨by kernel_rfl, by kernel_rfl, fun ρ => by kernel_rfl, by kernel_rfl⟩
def ti18 : TI := ⟨.struct [(0, 17)], 1, [.val (.pointer none)]⟩
theorem tt18 : TIOk Try.prog 18 ti18 := ⟨by kernel_rfl, by kernel_rfl, fun ρ => by kernel_rfl, by kernel_rfl⟩
def ti19 : TI := ⟨.struct [(0, 17)], 1, [.val (.pointer none)]⟩
theorem tt19 : TIOk Try.prog 19 ti19 := ⟨by kernel_rfl, by kernel_rfl, fun ρ => by kernel_rfl, by kernel_rfl⟩
def ti20 : TI := ⟨.other, 1, [.val .nilIface]⟩
theorem tt20 : TIOk Try.prog 20 ti20 := ⟨by kernel_rfl, by kernel_rfl, fun ρ => by kernel_rfl, by kernel_rfl⟩
def ti21 : TI := ⟨.int .i32, 1, [.int .i32 (.c 0)]⟩
theorem tt21 : TIOk Try.prog 21 ti21 := ⟨by kernel_rfl, by kernel_rfl, fun ρ => by kernel_rfl, by kernel_rfl⟩
def ti22 : TI := ⟨.slice 5, 1, [.val (.slice none 0 0)]⟩
theorem tt22 : TIOk Try.prog 22 ti22 := ⟨by kernel_rfl, by kernel_rfl, fun ρ => by kernel_rfl, by kernel_rfl⟩
def ti23 : TI := ⟨.other, 1, [.val .nilFunc]⟩
theorem tt23 : TIOk Try.prog 23 ti23 := ⟨by kernel_rfl, by kernel_rfl, fun ρ => by kernel_rfl, by kernel_rfl⟩
def ti24 : TI := ⟨.pointer 39, 1, [.val (.pointer none)]⟩
theorem tt24 : TIOk Try.prog 24 ti24 := ⟨by kernel_rfl, by kernel_rfl, fun ρ => by kernel_rfl, by kernel_rfl⟩
def ti25 : TI := ⟨.other, 1, [.val .nilFunc]⟩
theorem tt25 : TIOk Try.prog 25 ti25 := ⟨by kernel_rfl, by kernel_rfl, fun ρ => by kernel_rfl, by kernel_rfl⟩
def ti26 : TI := ⟨.other, 1, [.val .nilFunc]⟩
theorem tt26 : TIOk Try.prog 26 ti26 := ⟨by kernel_rfl, by kernel_rfl, fun ρ => by kernel_rfl, by kernel_rfl⟩
def ti27 : TI := ⟨.array 2 22, 2, [.val (.slice none 0 0), .val (.slice none 0 0)]⟩
theorem tt27 : TIOk Try.prog 27 ti27 := ⟨by kernel_rfl, by kernel_rfl, fun ρ => by kernel_rfl, by kernel_rfl⟩
def ti28 : TI := ⟨.slice 27, 1, [.val (.slice none 0 0)]⟩
theorem tt28 : TIOk Try.prog 28 ti28 := ⟨by kernel_rfl, by kernel_rfl, fun ρ => by kernel_rfl, by kernel_rfl⟩
def ti29 : TI := ⟨.int .i64, 1, [.int .i64 (.c 0)]⟩
theorem tt29 : TIOk Try.prog 29 ti29 := ⟨by kernel_rfl, by kernel_rfl, fun ρ => by kernel_rfl, by kernel_rfl⟩
def ti31 : TI := ⟨.other, 1, [.val .nilFunc]⟩
theorem tt31 : TIOk Try.prog 31 ti31 := ⟨by kernel_rfl, by kernel_rfl, fun ρ => by kernel_rfl, by kernel_rfl⟩
def ti32 : TI := ⟨.other, 1, [.val .nilFunc]⟩
theorem tt32 : TIOk Try.prog 32 ti32 := ⟨by kernel_rfl, by kernel_rfl, fun ρ => by kernel_rfl, by kernel_rfl⟩
def ti33 : TI := ⟨.other, 1, [.val .nilFunc]⟩
theorem tt33 : TIOk Try.prog 33 ti33 := ⟨by kernel_rfl, by kernel_rfl, fun ρ => by kernel_rfl, by kernel_rfl⟩
def ti34 : TI := ⟨.other, 1, [.val .nilFunc]⟩
theorem tt34 : TIOk Try.prog 34 ti34 := ⟨by kernel_rfl, by kernel_rfl, fun ρ => by kernel_rfl, by kernel_rfl⟩
def ti35 : TI := ⟨.other, 1, [.val .nilFunc]⟩
theorem tt35 : TIOk Try.prog 35 ti35 := ⟨by kernel_rfl, by kernel_rfl, fun ρ => by kernel_rfl, by kernel_rfl⟩
def ti36 : TI := ⟨.other, 1, [.val .nilFunc]⟩
theorem tt36 : TIOk Try.prog 36 ti36 := ⟨by kernel_rfl, by kernel_rfl, fun ρ => by kernel_rfl, by kernel_rfl⟩
def ti37 : TI := ⟨.other, 1, [.val .nilFunc]⟩
theorem tt37 : TIOk Try.prog 37 ti37 := ⟨by kernel_rfl, by kernel_rfl, fun ρ => by kernel_rfl, by kernel_rfl⟩
def ti38 : TI := ⟨.struct [(0, 22), (1, 3)], 2, [.val (.slice none 0 0), .int .i64 (.c 0)]⟩
theorem tt38 : TIOk Try.prog 38 ti38 := ⟨by kernel_rfl, by kernel_rfl, fun ρ => by kernel_rfl, by kernel_rfl⟩
def ti39 : TI := ⟨.struct [(0, 22), (1, 3)], 2, [.val (.slice none 0 0), .int .i64 (.c 0)]⟩
theorem tt39 : TIOk Try.prog 39 ti39 := ⟨by kernel_rfl, by kernel_rfl, fun ρ => by kernel_rfl, by kernel_rfl⟩
def ti40 : TI := ⟨.other, 1, [.val .nilFunc]⟩
theorem tt40 : TIOk Try.prog 40 ti40 := ⟨by kernel_rfl, by kernel_rfl, fun ρ => by kernel_rfl, by kernel_rfl⟩
def ti41 : TI := ⟨.array 32 5, 32, [.int .u8 (.c 0), .int .u8 (.c 0), .int .u8 (.c 0), .int .u8 (.c 0), .int .u8 (.c 0), .int .u8 (.c 0), .int .u8 (.c 0), .int .u8 (.c 0), .int .u8 (.c 0), .int .u8 (.c 0), .int .u8 (.c 0), .int .u8 (.c 0), .int .u8 (.c 0), .int .u8 (.c 0), .int .u8 (.c 0), .int .u8 (.c 0), .int .u8 (.c 0), .int .u8 (.c 0), .int .u8 (.c 0), .int .u8 (.c 0), .int .u8 (.c 0), .int .u8 (.c 0), .int .u8 (.c 0), .int .u8 (.c 0), .int .u8 (.c 0), .int .u8 (.c 0), .int .u8 (.c 0), .int .u8 (.c 0), .int .u8 (.c 0), .int .u8 (.c 0), .int .u8 (.c 0), .int .u8 (.c 0)]⟩
theorem tt41 : TIOk Try.prog 41 ti41 := ⟨by kernel_rfl, by kernel_rfl, fun ρ => by kernel_rfl, by kernel_rfl⟩
def ti42 : TI := ⟨.int .u64, 1, [.int .u64 (.c 0)]⟩
theorem tt42 : TIOk Try.prog 42 ti42 := ⟨by kernel_rfl, by kernel_rfl, fun ρ => by kernel_rfl, by kernel_rfl⟩
def ti43 : TI := ⟨.array 5 42, 5, [.int .u64 (.c 0), .int .u64 (.c 0), .int .u64 (.c 0), .int .u64 (.c 0), .int .u64 (.c 0)]⟩
theorem tt43 : TIOk Try.prog 43 ti43 := ⟨by kernel_rfl, by kernel_rfl, fun ρ => by kernel_rfl, by kernel_rfl⟩
def ti44 : TI := ⟨.array 5 42, 5, [.int .u64 (.c 0), .int .u64 (.c 0), .int .u64 (.c 0), .int .u64 (.c 0), .int .u64 (.c 0)]⟩
theorem tt44 : TIOk Try.prog 44 ti44 := ⟨by kernel_rfl, by kernel_rfl, fun ρ => by kernel_rfl, by kernel_rfl⟩
def ti45 : TI := ⟨.other, 1, [.val .nilFunc]⟩
theorem tt45 : TIOk Try.prog 45 ti45 := ⟨by kernel_rfl, by kernel_rfl, fun ρ => by kernel_rfl, by kernel_rfl⟩
def ti46 : TI := ⟨.other, 1, [.val .nilFunc]⟩
theorem tt46 : TIOk Try.prog 46 ti46 := ⟨by kernel_rfl, by kernel_rfl, fun ρ => by kernel_rfl, by kernel_rfl⟩
def ti47 : TI := ⟨.pointer 44, 1, [.val (.pointer none)]⟩
theorem tt47 : TIOk Try.prog 47 ti47 := ⟨by kernel_rfl, by kernel_rfl, fun ρ => by kernel_rfl, by kernel_rfl⟩
def ti48 : TI := ⟨.other, 1, [.val .nilFunc]⟩
theorem tt48 : TIOk Try.prog 48 ti48 := ⟨by kernel_rfl, by kernel_rfl, fun ρ => by kernel_rfl, by kernel_rfl⟩
def ti49 : TI := ⟨.other, 1, [.val .nilFunc]⟩
theorem tt49 : TIOk Try.prog 49 ti49 := ⟨by kernel_rfl, by kernel_rfl, fun ρ => by kernel_rfl, by kernel_rfl⟩
def ti50 : TI := ⟨.other, 1, [.val .nilFunc]⟩
theorem tt50 : TIOk Try.prog 50 ti50 := ⟨by kernel_rfl, by kernel_rfl, fun ρ => by kernel_rfl, by kernel_rfl⟩
def ti51 : TI := ⟨.array 16 42, 16, [.int .u64 (.c 0), .int .u64 (.c 0), .int .u64 (.c 0), .int .u64 (.c 0), .int .u64 (.c 0), .int .u64 (.c 0), .int .u64 (.c 0), .int .u64 (.c 0), .int .u64 (.c 0), .int .u64 (.c 0), .int .u64 (.c 0), .int .u64 (.c 0), .int .u64 (.c 0), .int .u64 (.c 0), .int .u64 (.c 0), .int .u64 (.c 0)]⟩
theorem tt51 : TIOk Try.prog 51 ti51 := ⟨by kernel_rfl, by kernel_rfl, fun ρ => by kernel_rfl, by kernel_rfl⟩
def ti52 : TI := ⟨.array 16 42, 16, [.int .u64 (.c 0), .int .u64 (.c 0), .int .u64 (.c 0), .int .u64 (.c 0), .int .u64 (.c 0), .int .u64 (.c 0), .int .u64 (.c 0), .int .u64 (.c 0), .int .u64 (.c 0), .int .u64 (.c 0), .int .u64 (.c 0), .int .u64 (.c 0), .int .u64 (.c 0), .int .u64 (.c 0), .int .u64 (.c 0), .int .u64 (.c 0)]⟩
theorem tt52 : TIOk Try.prog 52 ti52 := ⟨by kernel_rfl, by kernel_rfl, fun ρ => by kernel_rfl, by kernel_rfl⟩
def ti53 : TI := ⟨.other, 1, [.val .nilFunc]⟩
theorem tt53 : TIOk Try.prog 53 ti53 := ⟨by kernel_rfl, by kernel_rfl, fun ρ => by kernel_rfl, by kernel_rfl⟩
def ti54 : TI := ⟨.int .u64, 1, [.int .u64 (.c 0)]⟩
theorem tt54 : TIOk Try.prog 54 ti54 := ⟨by kernel_rfl, by kernel_rfl, fun ρ => by kernel_rfl, by kernel_rfl⟩
def ti55 : TI := ⟨.other, 1, [.val .nilFunc]⟩
theorem tt55 : TIOk Try.prog 55 ti55 := ⟨by kernel_rfl, by kernel_rfl, fun ρ => by kernel_rfl, by kernel_rfl⟩
def ti56 : TI := ⟨.other, 1, [.val .nilFunc]⟩
theorem tt56 : TIOk Try.prog 56 ti56 := ⟨by kernel_rfl, by kernel_rfl, fun ρ => by kernel_rfl, by kernel_rfl⟩
def ti57 : TI := ⟨.other, 1, [.val .nilFunc]⟩
theorem tt57 : TIOk Try.prog 57 ti57 := ⟨by kernel_rfl, by kernel_rfl, fun ρ => by kernel_rfl, by kernel_rfl⟩
def ti58 : TI := ⟨.other, 1, [.val .nilFunc]⟩
theorem tt58 : TIOk Try.prog 58 ti58 := ⟨by kernel_rfl, by kernel_rfl, fun ρ => by kernel_rfl, by kernel_rfl⟩
def ti59 : TI := ⟨.struct [(0, 42), (1, 42)], 2, [.int .u64 (.c 0), .int .u64 (.c 0)]⟩
theorem tt59 : TIOk Try.prog 59 ti59 := ⟨by kernel_rfl, by kernel_rfl, fun ρ => by kernel_rfl, by kernel_rfl⟩
def ti60 : TI := ⟨.struct [(0, 42), (1, 42)], 2, [.int .u64 (.c 0), .int .u64 (.c 0)]⟩
theorem tt60 : TIOk Try.prog 60 ti60 := ⟨by kernel_rfl, by kernel_rfl, fun ρ => by kernel_rfl, by kernel_rfl⟩
def ti61 : TI := ⟨.array 5 60, 10, [.int .u64 (.c 0), .int .u64 (.c 0), .int .u64 (.c 0), .int .u64 (.c 0), .int .u64 (.c 0), .int .u64 (.c 0), .int .u64 (.c 0), .int .u64 (.c 0), .int .u64 (.c 0), .int .u64 (.c 0)]⟩
theorem tt61 : TIOk Try.prog 61 ti61 := ⟨by kernel_rfl, by kernel_rfl, fun ρ => by kernel_rfl, by kernel_rfl⟩
def ti62 : TI := ⟨.other, 1, [.val .nilFunc]⟩
theorem tt62 : TIOk Try.prog 62 ti62 := ⟨by kernel_rfl, by kernel_rfl, fun ρ => by kernel_rfl, by kernel_rfl⟩
def ti64 : TI := ⟨.other, 1, [.val .nilFunc]⟩
theorem tt64 : TIOk Try.prog 64 ti64 := ⟨by kernel_rfl, by kernel_rfl, fun ρ => by kernel_rfl, by kernel_rfl⟩
def ti65 : TI := ⟨.other, 1, [.val .nilFunc]⟩
theorem tt65 : TIOk Try.prog 65 ti65 := ⟨by kernel_rfl, by kernel_rfl, fun ρ => by kernel_rfl, by kernel_rfl⟩
def ti66 : TI := ⟨.pointer 60, 1, [.val (.pointer none)]⟩
theorem tt66 : TIOk Try.prog 66 ti66 := ⟨by kernel_rfl, by kernel_rfl, fun ρ => by kernel_rfl, by kernel_rfl⟩
def ti67 : TI := ⟨.other, 1, [.val .nilFunc]⟩
theorem tt67 : TIOk Try.prog 67 ti67 := ⟨by kernel_rfl, by kernel_rfl, fun ρ => by kernel_rfl, by kernel_rfl⟩
def ti68 : TI := ⟨.struct [(0, 17), (1, 17), (2, 17), (3, 9)], 4, [.val (.pointer none), .val (.pointer none), .val (.pointer none), .str (fun _ => ⟨#[]⟩)]⟩
theorem tt68 : TIOk Try.prog 68 ti68 := ⟨by kernel_rfl, by kernel_rfl, fun ρ => by kernel_rfl, by kernel_rfl⟩
def ti69 : TI := ⟨.struct [(0, 17), (1, 17), (2, 17), (3, 9)], 4, [.val (.pointer none), .val (.pointer none), .val (.pointer none), .str (fun _ => ⟨#[]⟩)]⟩
theorem tt69 : TIOk Try.prog 69 ti69 := ⟨by kernel_rfl, by kernel_rfl, fun ρ => by kernel_rfl, by kernel_rfl⟩
def ti73 : TI := ⟨.other, 1, [.val .nilFunc]⟩
theorem tt73 : TIOk Try.prog 73 ti73 := ⟨by kernel_rfl, by kernel_rfl, fun ρ => by kernel_rfl, by kernel_rfl⟩
def ti74 : TI := ⟨.int .u32, 1, [.int .u32 (.c 0)]⟩
theorem tt74 : TIOk Try.prog 74 ti74 := ⟨by kernel_rfl, by kernel_rfl, fun ρ => by kernel_rfl, by kernel_rfl⟩
def ti75 : TI := ⟨.int .u8, 1, [.int .u8 (.c 0)]⟩
theorem tt75 : TIOk Try.prog 75 ti75 := ⟨by kernel_rfl, by kernel_rfl, fun ρ => by kernel_rfl, by kernel_rfl⟩
def ti76 : TI := ⟨.int .u8, 1, [.int .u8 (.c 0)]⟩
theorem tt76 : TIOk Try.prog 76 ti76 := ⟨by kernel_rfl, by kernel_rfl, fun ρ => by kernel_rfl, by kernel_rfl⟩
def ti77 : TI := ⟨.other, 1, [.val .nilFunc]⟩
theorem tt77 : TIOk Try.prog 77 ti77 := ⟨by kernel_rfl, by kernel_rfl, fun ρ => by kernel_rfl, by kernel_rfl⟩
def ti78 : TI := ⟨.pointer 5, 1, [.val (.pointer none)]⟩
theorem tt78 : TIOk Try.prog 78 ti78 := ⟨by kernel_rfl, by kernel_rfl, fun ρ => by kernel_rfl, by kernel_rfl⟩
def ti79 : TI := ⟨.int .i32, 1, [.int .i32 (.c 0)]⟩
theorem tt79 : TIOk Try.prog 79 ti79 := ⟨by kernel_rfl, by kernel_rfl, fun ρ => by kernel_rfl, by kernel_rfl⟩
def ti80 : TI := ⟨.int .i32, 1, [.int .i32 (.c 0)]⟩
theorem tt80 : TIOk Try.prog 80 ti80 := ⟨by kernel_rfl, by kernel_rfl, fun ρ => by kernel_rfl, by kernel_rfl⟩
def ti81 : TI := ⟨.struct [(0, 12), (1, 12), (2, 74), (3, 75), (4, 5), (5, 5), (6, 76), (7, 77), (8, 78), (9, 79), (10, 80)], 11, [.int .u64 (.c 0), .int .u64 (.c 0), .int .u32 (.c 0), .int .u8 (.c 0), .int .u8 (.c 0), .int .u8 (.c 0), .int .u8 (.c 0), .val .nilFunc, .val (.pointer none), .int .i32 (.c 0), .int .i32 (.c 0)]⟩
theorem tt81 : TIOk Try.prog 81 ti81 := ⟨by kernel_rfl, by kernel_rfl, fun ρ => by kernel_rfl, by kernel_rfl⟩
def ti82 : TI := ⟨.struct [(0, 12), (1, 12), (2, 74), (3, 75), (4, 5), (5, 5), (6, 76), (7, 77), (8, 78), (9, 79), (10, 80)], 11, [.int .u64 (.c 0), .int .u64 (.c 0), .int .u32 (.c 0), .int .u8 (.c 0), .int .u8 (.c 0), .int .u8 (.c 0), .int .u8 (.c 0), .val .nilFunc, .val (.pointer none), .int .i32 (.c 0), .int .i32 (.c 0)]⟩
theorem tt82 : TIOk Try.prog 82 ti82 := ⟨by kernel_rfl, by kernel_rfl, fun ρ => by kernel_rfl, by kernel_rfl⟩
def ti83 : TI := ⟨.other, 1, [.val (.pointer none)]⟩
theorem tt83 : TIOk Try.prog 83 ti83 := ⟨by kernel_rfl, by kernel_rfl, fun ρ => by kernel_rfl, by kernel_rfl⟩
/-- The types that this seat's functions meet. -/
def tt : TT := nd0 41 (nd0 20 (nd0 10 (nd0 5 (nd0 3 (nd0 2 (lf0 1 ti1) (lf0 2 ti2)) (nd0 4 (lf0 3 ti3) (lf0 4 ti4))) (nd0 7 (nd0 6 (lf0 5 ti5) (lf0 6 ti6)) (nd0 8 (lf0 7 ti7) (nd0 9 (lf0 8 ti8) (lf0 9 ti9))))) (nd0 15 (nd0 12 (nd0 11 (lf0 10 ti10) (lf0 11 ti11)) (nd0 13 (lf0 12 ti12) (nd0 14 (lf0 13 ti13) (lf0 14 ti14)))) (nd0 17 (nd0 16 (lf0 15 ti15) (lf0 16 ti16)) (nd0 18 (lf0 17 ti17) (nd0 19 (lf0 18 ti18) (lf0 19 ti19)))))) (nd0 31 (nd0 25 (nd0 22 (nd0 21 (lf0 20 ti20) (lf0 21 ti21)) (nd0 23 (lf0 22 ti22) (nd0 24 (lf0 23 ti23) (lf0 24 ti24)))) (nd0 27 (nd0 26 (lf0 25 ti25) (lf0 26 ti26)) (nd0 28 (lf0 27 ti27) (nd0 29 (lf0 28 ti28) (lf0 29 ti29))))) (nd0 36 (nd0 33 (nd0 32 (lf0 31 ti31) (lf0 32 ti32)) (nd0 34 (lf0 33 ti33) (nd0 35 (lf0 34 ti34) (lf0 35 ti35)))) (nd0 38 (nd0 37 (lf0 36 ti36) (lf0 37 ti37)) (nd0 39 (lf0 38 ti38) (nd0 40 (lf0 39 ti39) (lf0 40 ti40))))))) (nd0 60 (nd0 50 (nd0 45 (nd0 43 (nd0 42 (lf0 41 ti41) (lf0 42 ti42)) (nd0 44 (lf0 43 ti43) (lf0 44 ti44))) (nd0 47 (nd0 46 (lf0 45 ti45) (lf0 46 ti46)) (nd0 48 (lf0 47 ti47) (nd0 49 (lf0 48 ti48) (lf0 49 ti49))))) (nd0 55 (nd0 52 (nd0 51 (lf0 50 ti50) (lf0 51 ti51)) (nd0 53 (lf0 52 ti52) (nd0 54 (lf0 53 ti53) (lf0 54 ti54)))) (nd0 57 (nd0 56 (lf0 55 ti55) (lf0 56 ti56)) (nd0 58 (lf0 57 ti57) (nd0 59 (lf0 58 ti58) (lf0 59 ti59)))))) (nd0 74 (nd0 66 (nd0 62 (nd0 61 (lf0 60 ti60) (lf0 61 ti61)) (nd0 64 (lf0 62 ti62) (nd0 65 (lf0 64 ti64) (lf0 65 ti65)))) (nd0 68 (nd0 67 (lf0 66 ti66) (lf0 67 ti67)) (nd0 69 (lf0 68 ti68) (nd0 73 (lf0 69 ti69) (lf0 73 ti73))))) (nd0 79 (nd0 76 (nd0 75 (lf0 74 ti74) (lf0 75 ti75)) (nd0 77 (lf0 76 ti76) (nd0 78 (lf0 77 ti77) (lf0 78 ti78)))) (nd0 81 (nd0 80 (lf0 79 ti79) (lf0 80 ti80)) (nd0 82 (lf0 81 ti81) (nd0 83 (lf0 82 ti82) (lf0 83 ti83)))))))
theorem tt_ok : TT.ok Try.prog tt := (nd0_ok (nd0_ok (nd0_ok (nd0_ok (nd0_ok (nd0_ok (lf0_ok tt1) (lf0_ok tt2)) (nd0_ok (lf0_ok tt3) (lf0_ok tt4))) (nd0_ok (nd0_ok (lf0_ok tt5) (lf0_ok tt6)) (nd0_ok (lf0_ok tt7) (nd0_ok (lf0_ok tt8) (lf0_ok tt9))))) (nd0_ok (nd0_ok (nd0_ok (lf0_ok tt10) (lf0_ok tt11)) (nd0_ok (lf0_ok tt12) (nd0_ok (lf0_ok tt13) (lf0_ok tt14)))) (nd0_ok (nd0_ok (lf0_ok tt15) (lf0_ok tt16)) (nd0_ok (lf0_ok tt17) (nd0_ok (lf0_ok tt18) (lf0_ok tt19)))))) (nd0_ok (nd0_ok (nd0_ok (nd0_ok (lf0_ok tt20) (lf0_ok tt21)) (nd0_ok (lf0_ok tt22) (nd0_ok (lf0_ok tt23) (lf0_ok tt24)))) (nd0_ok (nd0_ok (lf0_ok tt25) (lf0_ok tt26)) (nd0_ok (lf0_ok tt27) (nd0_ok (lf0_ok tt28) (lf0_ok tt29))))) (nd0_ok (nd0_ok (nd0_ok (lf0_ok tt31) (lf0_ok tt32)) (nd0_ok (lf0_ok tt33) (nd0_ok (lf0_ok tt34) (lf0_ok tt35)))) (nd0_ok (nd0_ok (lf0_ok tt36) (lf0_ok tt37)) (nd0_ok (lf0_ok tt38) (nd0_ok (lf0_ok tt39) (lf0_ok tt40))))))) (nd0_ok (nd0_ok (nd0_ok (nd0_ok (nd0_ok (lf0_ok tt41) (lf0_ok tt42)) (nd0_ok (lf0_ok tt43) (lf0_ok tt44))) (nd0_ok (nd0_ok (lf0_ok tt45) (lf0_ok tt46)) (nd0_ok (lf0_ok tt47) (nd0_ok (lf0_ok tt48) (lf0_ok tt49))))) (nd0_ok (nd0_ok (nd0_ok (lf0_ok tt50) (lf0_ok tt51)) (nd0_ok (lf0_ok tt52) (nd0_ok (lf0_ok tt53) (lf0_ok tt54)))) (nd0_ok (nd0_ok (lf0_ok tt55) (lf0_ok tt56)) (nd0_ok (lf0_ok tt57) (nd0_ok (lf0_ok tt58) (lf0_ok tt59)))))) (nd0_ok (nd0_ok (nd0_ok (nd0_ok (lf0_ok tt60) (lf0_ok tt61)) (nd0_ok (lf0_ok tt62) (nd0_ok (lf0_ok tt64) (lf0_ok tt65)))) (nd0_ok (nd0_ok (lf0_ok tt66) (lf0_ok tt67)) (nd0_ok (lf0_ok tt68) (nd0_ok (lf0_ok tt69) (lf0_ok tt73))))) (nd0_ok (nd0_ok (nd0_ok (lf0_ok tt74) (lf0_ok tt75)) (nd0_ok (lf0_ok tt76) (nd0_ok (lf0_ok tt77) (lf0_ok tt78)))) (nd0_ok (nd0_ok (lf0_ok tt79) (lf0_ok tt80)) (nd0_ok (lf0_ok tt81) (nd0_ok (lf0_ok tt82) (lf0_ok tt83))))))))
theorem ek2 : EKOk Try.prog 2 (.int) := ⟨_, Try.underlying2⟩
theorem ek3 : EKOk Try.prog 3 (.int) := ⟨_, Try.underlying3⟩
theorem ek4 : EKOk Try.prog 4 (.bool) := Try.underlying4
theorem ek5 : EKOk Try.prog 5 (.int) := ⟨_, Try.underlying5⟩
theorem ek9 : EKOk Try.prog 9 (.str) := Try.underlying9
theorem ek21 : EKOk Try.prog 21 (.int) := ⟨_, Try.underlying21⟩
theorem ek29 : EKOk Try.prog 29 (.int) := ⟨_, Try.underlying29⟩
theorem ek41 : EKOk Try.prog 41 (.array 32 5) := Try.underlying41
theorem ek42 : EKOk Try.prog 42 (.int) := ⟨_, Try.underlying42⟩
theorem ek43 : EKOk Try.prog 43 (.array 5 42) := Try.underlying43
theorem ek44 : EKOk Try.prog 44 (.array 5 42) := Try.underlying44
theorem ek51 : EKOk Try.prog 51 (.array 16 42) := Try.underlying51
theorem ek52 : EKOk Try.prog 52 (.array 16 42) := Try.underlying52
theorem ek54 : EKOk Try.prog 54 (.int) := ⟨_, Try.underlying54⟩
theorem ek59 : EKOk Try.prog 59 (.struct [(0, 42), (1, 42)]) := by exact (⟨by kernel_rfl, by kernel_rfl, by kernel_rfl⟩ : EKS Try.prog 59 [(0, 42), (1, 42)])
theorem ek60 : EKOk Try.prog 60 (.struct [(0, 42), (1, 42)]) := by exact (⟨by kernel_rfl, by kernel_rfl, by kernel_rfl⟩ : EKS Try.prog 60 [(0, 42), (1, 42)])
theorem ek61 : EKOk Try.prog 61 (.array 5 60) := Try.underlying61
theorem ek74 : EKOk Try.prog 74 (.int) := ⟨_, Try.underlying74⟩
def et : ET := nd0 43 (nd0 9 (nd0 4 (nd0 3 (lf0 2 (.int)) (lf0 3 (.int))) (nd0 5 (lf0 4 (.bool)) (lf0 5 (.int)))) (nd0 29 (nd0 21 (lf0 9 (.str)) (lf0 21 (.int))) (nd0 41 (lf0 29 (.int)) (nd0 42 (lf0 41 (.array 32 5)) (lf0 42 (.int)))))) (nd0 54 (nd0 51 (nd0 44 (lf0 43 (.array 5 42)) (lf0 44 (.array 5 42))) (nd0 52 (lf0 51 (.array 16 42)) (lf0 52 (.array 16 42)))) (nd0 60 (nd0 59 (lf0 54 (.int)) (lf0 59 (.struct [(0, 42), (1, 42)]))) (nd0 61 (lf0 60 (.struct [(0, 42), (1, 42)])) (nd0 74 (lf0 61 (.array 5 60)) (lf0 74 (.int))))))
theorem et_ok : ET.ok Try.prog et := (nd0_ok (nd0_ok (nd0_ok (nd0_ok (lf0_ok ek2) (lf0_ok ek3)) (nd0_ok (lf0_ok ek4) (lf0_ok ek5))) (nd0_ok (nd0_ok (lf0_ok ek9) (lf0_ok ek21)) (nd0_ok (lf0_ok ek29) (nd0_ok (lf0_ok ek41) (lf0_ok ek42))))) (nd0_ok (nd0_ok (nd0_ok (lf0_ok ek43) (lf0_ok ek44)) (nd0_ok (lf0_ok ek51) (lf0_ok ek52))) (nd0_ok (nd0_ok (lf0_ok ek54) (lf0_ok ek59)) (nd0_ok (lf0_ok ek60) (nd0_ok (lf0_ok ek61) (lf0_ok ek74))))))
theorem eg41 : Try.prog.eqGuardType Try.prog.depth 41 = false := by kernel_rfl
theorem eg43 : Try.prog.eqGuardType Try.prog.depth 43 = false := by kernel_rfl
theorem eg44 : Try.prog.eqGuardType Try.prog.depth 44 = false := by kernel_rfl
theorem eg51 : Try.prog.eqGuardType Try.prog.depth 51 = false := by kernel_rfl
theorem eg52 : Try.prog.eqGuardType Try.prog.depth 52 = false := by kernel_rfl
theorem eg59 : Try.prog.eqGuardType Try.prog.depth 59 = false := by kernel_rfl
theorem eg60 : Try.prog.eqGuardType Try.prog.depth 60 = false := by kernel_rfl
theorem eg61 : Try.prog.eqGuardType Try.prog.depth 61 = false := by kernel_rfl
def qt : EqT := nd0 52 (nd0 44 (nd0 43 (lf0 41 (eqF tt et 41)) (lf0 43 (eqF tt et 43))) (nd0 51 (lf0 44 (eqF tt et 44)) (lf0 51 (eqF tt et 51)))) (nd0 60 (nd0 59 (lf0 52 (eqF tt et 52)) (lf0 59 (eqF tt et 59))) (nd0 61 (lf0 60 (eqF tt et 60)) (lf0 61 (eqF tt et 61))))
theorem qt_ok : EqT.ok Try.prog qt := (nd0_ok (nd0_ok (nd0_ok (lf0_ok (eqF_ok tt_ok et_ok eg41)) (lf0_ok (eqF_ok tt_ok et_ok eg43))) (nd0_ok (lf0_ok (eqF_ok tt_ok et_ok eg44)) (lf0_ok (eqF_ok tt_ok et_ok eg51)))) (nd0_ok (nd0_ok (lf0_ok (eqF_ok tt_ok et_ok eg52)) (lf0_ok (eqF_ok tt_ok et_ok eg59))) (nd0_ok (lf0_ok (eqF_ok tt_ok et_ok eg60)) (lf0_ok (eqF_ok tt_ok et_ok eg61)))))
def bt : TypeId → Option Nat := nd0 41 (nd0 20 (nd0 10 (nd0 5 (nd0 3 (nd0 2 (lf0 1 8) (lf0 2 8)) (nd0 4 (lf0 3 8) (lf0 4 1))) (nd0 7 (nd0 6 (lf0 5 1) (lf0 6 1)) (nd0 8 (lf0 7 24) (nd0 9 (lf0 8 24) (lf0 9 16))))) (nd0 15 (nd0 12 (nd0 11 (lf0 10 16) (lf0 11 16)) (nd0 13 (lf0 12 8) (nd0 14 (lf0 13 24) (lf0 14 24)))) (nd0 17 (nd0 16 (lf0 15 8) (lf0 16 8)) (nd0 18 (lf0 17 8) (nd0 19 (lf0 18 8) (lf0 19 8)))))) (nd0 31 (nd0 25 (nd0 22 (nd0 21 (lf0 20 16) (lf0 21 4)) (nd0 23 (lf0 22 24) (nd0 24 (lf0 23 8) (lf0 24 8)))) (nd0 27 (nd0 26 (lf0 25 8) (lf0 26 8)) (nd0 28 (lf0 27 48) (nd0 29 (lf0 28 24) (lf0 29 8))))) (nd0 36 (nd0 33 (nd0 32 (lf0 31 8) (lf0 32 8)) (nd0 34 (lf0 33 8) (nd0 35 (lf0 34 8) (lf0 35 8)))) (nd0 38 (nd0 37 (lf0 36 8) (lf0 37 8)) (nd0 39 (lf0 38 32) (nd0 40 (lf0 39 32) (lf0 40 8))))))) (nd0 60 (nd0 50 (nd0 45 (nd0 43 (nd0 42 (lf0 41 32) (lf0 42 8)) (nd0 44 (lf0 43 40) (lf0 44 40))) (nd0 47 (nd0 46 (lf0 45 8) (lf0 46 8)) (nd0 48 (lf0 47 8) (nd0 49 (lf0 48 8) (lf0 49 8))))) (nd0 55 (nd0 52 (nd0 51 (lf0 50 8) (lf0 51 128)) (nd0 53 (lf0 52 128) (nd0 54 (lf0 53 8) (lf0 54 8)))) (nd0 57 (nd0 56 (lf0 55 8) (lf0 56 8)) (nd0 58 (lf0 57 8) (nd0 59 (lf0 58 8) (lf0 59 16)))))) (nd0 74 (nd0 66 (nd0 62 (nd0 61 (lf0 60 16) (lf0 61 80)) (nd0 64 (lf0 62 8) (nd0 65 (lf0 64 8) (lf0 65 8)))) (nd0 68 (nd0 67 (lf0 66 8) (lf0 67 8)) (nd0 69 (lf0 68 40) (nd0 73 (lf0 69 40) (lf0 73 8))))) (nd0 79 (nd0 76 (nd0 75 (lf0 74 4) (lf0 75 1)) (nd0 77 (lf0 76 1) (nd0 78 (lf0 77 8) (lf0 78 8)))) (nd0 81 (nd0 80 (lf0 79 4) (lf0 80 4)) (nd0 82 (lf0 81 48) (nd0 83 (lf0 82 48) (lf0 83 8)))))))
theorem bt_ok : BtOk Try.prog bt := ⟨(nd0_ok (nd0_ok (nd0_ok (nd0_ok (nd0_ok (nd0_ok (lf0_ok (bt1 (by kernel_rfl))) (lf0_ok (bt1 (by kernel_rfl)))) (nd0_ok (lf0_ok (bt1 (by kernel_rfl))) (lf0_ok (bt1 (by kernel_rfl))))) (nd0_ok (nd0_ok (lf0_ok (bt1 (by kernel_rfl))) (lf0_ok (bt1 (by kernel_rfl)))) (nd0_ok (lf0_ok (bt1 (by kernel_rfl))) (nd0_ok (lf0_ok (bt1 (by kernel_rfl))) (lf0_ok (bt1 (by kernel_rfl))))))) (nd0_ok (nd0_ok (nd0_ok (lf0_ok (bt1 (by kernel_rfl))) (lf0_ok (bt1 (by kernel_rfl)))) (nd0_ok (lf0_ok (bt1 (by kernel_rfl))) (nd0_ok (lf0_ok (bt1 (by kernel_rfl))) (lf0_ok (bt1 (by kernel_rfl)))))) (nd0_ok (nd0_ok (lf0_ok (bt1 (by kernel_rfl))) (lf0_ok (bt1 (by kernel_rfl)))) (nd0_ok (lf0_ok (bt1 (by kernel_rfl))) (nd0_ok (lf0_ok (bt1 (by kernel_rfl))) (lf0_ok (bt1 (by kernel_rfl)))))))) (nd0_ok (nd0_ok (nd0_ok (nd0_ok (lf0_ok (bt1 (by kernel_rfl))) (lf0_ok (bt1 (by kernel_rfl)))) (nd0_ok (lf0_ok (bt1 (by kernel_rfl))) (nd0_ok (lf0_ok (bt1 (by kernel_rfl))) (lf0_ok (bt1 (by kernel_rfl)))))) (nd0_ok (nd0_ok (lf0_ok (bt1 (by kernel_rfl))) (lf0_ok (bt1 (by kernel_rfl)))) (nd0_ok (lf0_ok (bt1 (by kernel_rfl))) (nd0_ok (lf0_ok (bt1 (by kernel_rfl))) (lf0_ok (bt1 (by kernel_rfl))))))) (nd0_ok (nd0_ok (nd0_ok (lf0_ok (bt1 (by kernel_rfl))) (lf0_ok (bt1 (by kernel_rfl)))) (nd0_ok (lf0_ok (bt1 (by kernel_rfl))) (nd0_ok (lf0_ok (bt1 (by kernel_rfl))) (lf0_ok (bt1 (by kernel_rfl)))))) (nd0_ok (nd0_ok (lf0_ok (bt1 (by kernel_rfl))) (lf0_ok (bt1 (by kernel_rfl)))) (nd0_ok (lf0_ok (bt1 (by kernel_rfl))) (nd0_ok (lf0_ok (bt1 (by kernel_rfl))) (lf0_ok (bt1 (by kernel_rfl))))))))) (nd0_ok (nd0_ok (nd0_ok (nd0_ok (nd0_ok (lf0_ok (bt1 (by kernel_rfl))) (lf0_ok (bt1 (by kernel_rfl)))) (nd0_ok (lf0_ok (bt1 (by kernel_rfl))) (lf0_ok (bt1 (by kernel_rfl))))) (nd0_ok (nd0_ok (lf0_ok (bt1 (by kernel_rfl))) (lf0_ok (bt1 (by kernel_rfl)))) (nd0_ok (lf0_ok (bt1 (by kernel_rfl))) (nd0_ok (lf0_ok (bt1 (by kernel_rfl))) (lf0_ok (bt1 (by kernel_rfl))))))) (nd0_ok (nd0_ok (nd0_ok (lf0_ok (bt1 (by kernel_rfl))) (lf0_ok (bt1 (by kernel_rfl)))) (nd0_ok (lf0_ok (bt1 (by kernel_rfl))) (nd0_ok (lf0_ok (bt1 (by kernel_rfl))) (lf0_ok (bt1 (by kernel_rfl)))))) (nd0_ok (nd0_ok (lf0_ok (bt1 (by kernel_rfl))) (lf0_ok (bt1 (by kernel_rfl)))) (nd0_ok (lf0_ok (bt1 (by kernel_rfl))) (nd0_ok (lf0_ok (bt1 (by kernel_rfl))) (lf0_ok (bt1 (by kernel_rfl)))))))) (nd0_ok (nd0_ok (nd0_ok (nd0_ok (lf0_ok (bt1 (by kernel_rfl))) (lf0_ok (bt1 (by kernel_rfl)))) (nd0_ok (lf0_ok (bt1 (by kernel_rfl))) (nd0_ok (lf0_ok (bt1 (by kernel_rfl))) (lf0_ok (bt1 (by kernel_rfl)))))) (nd0_ok (nd0_ok (lf0_ok (bt1 (by kernel_rfl))) (lf0_ok (bt1 (by kernel_rfl)))) (nd0_ok (lf0_ok (bt1 (by kernel_rfl))) (nd0_ok (lf0_ok (bt1 (by kernel_rfl))) (lf0_ok (bt1 (by kernel_rfl))))))) (nd0_ok (nd0_ok (nd0_ok (lf0_ok (bt1 (by kernel_rfl))) (lf0_ok (bt1 (by kernel_rfl)))) (nd0_ok (lf0_ok (bt1 (by kernel_rfl))) (nd0_ok (lf0_ok (bt1 (by kernel_rfl))) (lf0_ok (bt1 (by kernel_rfl)))))) (nd0_ok (nd0_ok (lf0_ok (bt1 (by kernel_rfl))) (lf0_ok (bt1 (by kernel_rfl)))) (nd0_ok (lf0_ok (bt1 (by kernel_rfl))) (nd0_ok (lf0_ok (bt1 (by kernel_rfl))) (lf0_ok (bt1 (by kernel_rfl))))))))))⟩
def st : TypeId → Option Shp := nd0 28 (nd0 10 (nd0 6 (nd0 4 (nd0 3 (lf0 2 (.int .i64)) (lf0 3 (.int .i64))) (nd0 5 (lf0 4 .bool) (lf0 5 .byte))) (nd0 8 (nd0 7 (lf0 6 .byte) (lf0 7 (.st [(.int .i64), (.int .i64), .bool, .byte]))) (nd0 9 (lf0 8 (.st [(.int .i64), (.int .i64), .bool, .byte])) (lf0 9 .str)))) (nd0 14 (nd0 12 (nd0 11 (lf0 10 .str) (lf0 11 .str)) (nd0 13 (lf0 12 (.int .u64)) (lf0 13 (.st [.str, (.int .u64)])))) (nd0 22 (nd0 21 (lf0 14 (.st [.str, (.int .u64)])) (lf0 21 (.int .i32))) (nd0 27 (lf0 22 (.sl .byte)) (lf0 27 (.st [(.sl .byte), (.sl .byte)])))))) (nd0 59 (nd0 42 (nd0 38 (nd0 29 (lf0 28 (.sl (.st [(.sl .byte), (.sl .byte)]))) (lf0 29 (.int .i64))) (nd0 39 (lf0 38 (.st [(.sl .byte), (.int .i64)])) (lf0 39 (.st [(.sl .byte), (.int .i64)])))) (nd0 44 (nd0 43 (lf0 42 (.int .u64)) (lf0 43 (.st [(.int .u64), (.int .u64), (.int .u64), (.int .u64), (.int .u64)]))) (nd0 54 (lf0 44 (.st [(.int .u64), (.int .u64), (.int .u64), (.int .u64), (.int .u64)])) (lf0 54 (.int .u64))))) (nd0 75 (nd0 61 (nd0 60 (lf0 59 (.st [(.int .u64), (.int .u64)])) (lf0 60 (.st [(.int .u64), (.int .u64)]))) (nd0 74 (lf0 61 (.st [(.st [(.int .u64), (.int .u64)]), (.st [(.int .u64), (.int .u64)]), (.st [(.int .u64), (.int .u64)]), (.st [(.int .u64), (.int .u64)]), (.st [(.int .u64), (.int .u64)])])) (lf0 74 (.int .u32)))) (nd0 79 (nd0 76 (lf0 75 .byte) (lf0 76 .byte)) (nd0 80 (lf0 79 (.int .i32)) (lf0 80 (.int .i32))))))
theorem mixed_ok : Try.prog.follows .mixedOrders = true := by kernel_rfl
end Go.Proofs.Ytihnagafldpbnaa.V
