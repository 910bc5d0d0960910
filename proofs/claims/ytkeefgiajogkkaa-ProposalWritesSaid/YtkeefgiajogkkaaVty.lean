import Derived.Test.YtkeefgiajogkkaaProg
import Derived.Test.YtkeefgiajogkkaaVe
namespace Go.Proofs.Ytkeefgiajogkkaa.V
def ti1 : TI := ⟨.other, 1, [.val .nilFunc]⟩
theorem tt1 : TIOk Try.prog 1 ti1 := ⟨by kernel_rfl, by kernel_rfl, fun ρ => by kernel_rfl, by kernel_rfl⟩
def ti2 : TI := ⟨.int .i64, 1, [.int .i64 (.c 0)]⟩
theorem tt2 : TIOk Try.prog 2 ti2 := ⟨by kernel_rfl, by kernel_rfl, fun ρ => by kernel_rfl, by kernel_rfl⟩
def ti3 : TI := ⟨.int .i64, 1, [.int .i64 (.c 0)]⟩
theorem tt3 : TIOk Try.prog 3 ti3 := ⟨by kernel_rfl, by kernel_rfl, fun ρ => by kernel_rfl, by kernel_rfl⟩
def ti4 : TI := ⟨.bool, 1, [.bool (.c false)]⟩
theorem tt4 : TIOk Try.prog 4 ti4 := ⟨by kernel_rfl, by kernel_rfl, fun ρ => by kernel_rfl, by kernel_rfl⟩
def ti5 : TI := ⟨.int .u8, 1, [.int .u8 (.c 0)]⟩
theorem tt5 : TIOk Try.prog 5 ti5 := ⟨by kernel_rfl, by kernel_rfl, fun ρ => by kernel_rfl, by kernel_rfl⟩
def ti6 : TI := ⟨.int .u8, 1, [.int .u8 (.c 0)]⟩
theorem tt6 : TIOk Try.prog 6 ti6 := ⟨by kernel_rfl, by kernel_rfl, fun ρ => by kernel_rfl, by kernel_rfl⟩
def ti7 : TI := ⟨.struct [(0, 2), (1, 3), (2, 4), (3, 6)], 4, [.int .i64 (.c 0), .int .i64 (.c 0), .bool (.c false), .int .u8 (.c 0)]⟩
theorem tt7 : TIOk Try.prog 7 ti7 := ⟨by kernel_rfl, by kernel_rfl, fun ρ => by kernel_rfl, by kernel_rfl⟩
def ti8 : TI := ⟨.struct [(0, 2), (1, 3), (2, 4), (3, 6)], 4, [.int .i64 (.c 0), .int .i64 (.c 0), .bool (.c false), .int .u8 (.c 0)]⟩
theorem tt8 : TIOk Try.prog 8 ti8 := ⟨by kernel_rfl, by kernel_rfl, fun ρ => by kernel_rfl, by kernel_rfl⟩
def ti9 : TI := ⟨.string, 1, [.str (fun _ => ⟨#[]⟩)]⟩
theorem tt9 : TIOk Try.prog 9 ti9 := ⟨by kernel_rfl, by kernel_rfl, fun ρ => by kernel_rfl, by kernel_rfl⟩
def ti10 : TI := ⟨.string, 1, [.str (fun _ => ⟨#[]⟩)]⟩
theorem tt10 : TIOk Try.prog 10 ti10 := ⟨by kernel_rfl, by kernel_rfl, fun ρ => by kernel_rfl, by kernel_rfl⟩
def ti11 : TI := ⟨.string, 1, [.str (fun _ => ⟨#[]⟩)]⟩
theorem tt11 : TIOk Try.prog 11 ti11 := ⟨by kernel_rfl, by kernel_rfl, fun ρ => by kernel_rfl, by kernel_rfl⟩
def ti12 : TI := ⟨.int .u64, 1, [.int .u64 (.c 0)]⟩
theorem tt12 : TIOk Try.prog 12 ti12 := ⟨by kernel_rfl, by kernel_rfl, fun ρ => by kernel_rfl, by kernel_rfl⟩
def ti13 : TI := ⟨.struct [(0, 9), (1, 12)], 2, [.str (fun _ => ⟨#[]⟩), .int .u64 (.c 0)]⟩
theorem tt13 : TIOk Try.prog 13 ti13 := ⟨by kernel_rfl, by kernel_rfl, fun ρ => by kernel_rfl, by kernel_rfl⟩
def ti14 : TI := ⟨.struct [(0, 9), (1, 12)], 2, [.str (fun _ => ⟨#[]⟩), .int .u64 (.c 0)]⟩
theorem tt14 : TIOk Try.prog 14 ti14 := ⟨by kernel_rfl, by kernel_rfl, fun ρ => by kernel_rfl, by kernel_rfl⟩
def ti15 : TI := ⟨.pointer 92, 1, [.val (.pointer none)]⟩
theorem tt15 : TIOk Try.prog 15 ti15 := ⟨by kernel_rfl, by kernel_rfl, fun ρ => by kernel_rfl, by kernel_rfl⟩
def ti16 : TI := ⟨.pointer 95, 1, [.val (.pointer none)]⟩
theorem tt16 : TIOk Try.prog 16 ti16 := ⟨by kernel_rfl, by kernel_rfl, fun ρ => by kernel_rfl, by kernel_rfl⟩
def ti17 : TI := ⟨.pointer 104, 1, [.val (.pointer none)]⟩
theorem tt17 : TIOk Try.prog 17 ti17 := ⟨by kernel_rfl, by kernel_rfl, fun ρ => by kernel_rfl, by kernel_rfl⟩
def ti18 : TI := ⟨.struct [(0, 17)], 1, [.val (.pointer none)]⟩
theorem tt18 : TIOk Try.prog 18 ti18 := ⟨by kernel_rfl, by kernel_rfl, fun ρ => by kernel_rfl, by kernel_rfl⟩
def ti19 : TI := ⟨.struct [(0, 17)], 1, [.val (.pointer none)]⟩
theorem tt19 : TIOk Try.prog 19 ti19 := ⟨by kernel_rfl, by kernel_rfl, fun ρ => by kernel_rfl, by kernel_rfl⟩
def ti20 : TI := ⟨.other, 1, [.val .nilIface]⟩
theorem tt20 : TIOk Try.prog 20 ti20 := ⟨by kernel_rfl, by kernel_rfl, fun ρ => by kernel_rfl, by kernel_rfl⟩
def ti21 : TI := ⟨.int .i32, 1, [.int .i32 (.c 0)]⟩
theorem tt21 : TIOk Try.prog 21 ti21 := ⟨by kernel_rfl, by kernel_rfl, fun ρ => by kernel_rfl, by kernel_rfl⟩
def ti22 : TI := ⟨.slice 5, 1, [.val (.slice none 0 0)]⟩
theorem tt22 : TIOk Try.prog 22 ti22 := ⟨by kernel_rfl, by kernel_rfl, fun ρ => by kernel_rfl, by kernel_rfl⟩
def ti23 : TI := ⟨.other, 1, [.val .nilFunc]⟩
theorem tt23 : TIOk Try.prog 23 ti23 := ⟨by kernel_rfl, by kernel_rfl, fun ρ => by kernel_rfl, by kernel_rfl⟩
def ti24 : TI := ⟨.pointer 49, 1, [.val (.pointer none)]⟩
theorem tt24 : TIOk Try.prog 24 ti24 := ⟨by kernel_rfl, by kernel_rfl, fun ρ => by kernel_rfl, by kernel_rfl⟩
def ti25 : TI := ⟨.other, 1, [.val .nilFunc]⟩
theorem tt25 : TIOk Try.prog 25 ti25 := ⟨by kernel_rfl, by kernel_rfl, fun ρ => by kernel_rfl, by kernel_rfl⟩
def ti26 : TI := ⟨.int .i64, 1, [.int .i64 (.c 0)]⟩
theorem tt26 : TIOk Try.prog 26 ti26 := ⟨by kernel_rfl, by kernel_rfl, fun ρ => by kernel_rfl, by kernel_rfl⟩
def ti28 : TI := ⟨.other, 1, [.val .nilFunc]⟩
theorem tt28 : TIOk Try.prog 28 ti28 := ⟨by kernel_rfl, by kernel_rfl, fun ρ => by kernel_rfl, by kernel_rfl⟩
def ti29 : TI := ⟨.slice 40, 1, [.val (.slice none 0 0)]⟩
theorem tt29 : TIOk Try.prog 29 ti29 := ⟨by kernel_rfl, by kernel_rfl, fun ρ => by kernel_rfl, by kernel_rfl⟩
def ti30 : TI := ⟨.other, 1, [.val .nilFunc]⟩
theorem tt30 : TIOk Try.prog 30 ti30 := ⟨by kernel_rfl, by kernel_rfl, fun ρ => by kernel_rfl, by kernel_rfl⟩
def ti31 : TI := ⟨.other, 1, [.val .nilFunc]⟩
theorem tt31 : TIOk Try.prog 31 ti31 := ⟨by kernel_rfl, by kernel_rfl, fun ρ => by kernel_rfl, by kernel_rfl⟩
def ti32 : TI := ⟨.other, 1, [.val .nilFunc]⟩
theorem tt32 : TIOk Try.prog 32 ti32 := ⟨by kernel_rfl, by kernel_rfl, fun ρ => by kernel_rfl, by kernel_rfl⟩
def ti33 : TI := ⟨.slice 22, 1, [.val (.slice none 0 0)]⟩
theorem tt33 : TIOk Try.prog 33 ti33 := ⟨by kernel_rfl, by kernel_rfl, fun ρ => by kernel_rfl, by kernel_rfl⟩
def ti35 : TI := ⟨.other, 1, [.val .nilFunc]⟩
theorem tt35 : TIOk Try.prog 35 ti35 := ⟨by kernel_rfl, by kernel_rfl, fun ρ => by kernel_rfl, by kernel_rfl⟩
def ti36 : TI := ⟨.other, 1, [.val .nilFunc]⟩
theorem tt36 : TIOk Try.prog 36 ti36 := ⟨by kernel_rfl, by kernel_rfl, fun ρ => by kernel_rfl, by kernel_rfl⟩
def ti37 : TI := ⟨.other, 1, [.val .nilFunc]⟩
theorem tt37 : TIOk Try.prog 37 ti37 := ⟨by kernel_rfl, by kernel_rfl, fun ρ => by kernel_rfl, by kernel_rfl⟩
def ti38 : TI := ⟨.slice 42, 1, [.val (.slice none 0 0)]⟩
theorem tt38 : TIOk Try.prog 38 ti38 := ⟨by kernel_rfl, by kernel_rfl, fun ρ => by kernel_rfl, by kernel_rfl⟩
def ti39 : TI := ⟨.struct [(0, 3), (1, 3), (2, 22), (3, 38)], 4, [.int .i64 (.c 0), .int .i64 (.c 0), .val (.slice none 0 0), .val (.slice none 0 0)]⟩
theorem tt39 : TIOk Try.prog 39 ti39 := ⟨by kernel_rfl, by kernel_rfl, fun ρ => by kernel_rfl, by kernel_rfl⟩
def ti40 : TI := ⟨.struct [(0, 3), (1, 3), (2, 22), (3, 38)], 4, [.int .i64 (.c 0), .int .i64 (.c 0), .val (.slice none 0 0), .val (.slice none 0 0)]⟩
theorem tt40 : TIOk Try.prog 40 ti40 := ⟨by kernel_rfl, by kernel_rfl, fun ρ => by kernel_rfl, by kernel_rfl⟩
def ti41 : TI := ⟨.struct [(0, 3), (1, 3), (2, 3)], 3, [.int .i64 (.c 0), .int .i64 (.c 0), .int .i64 (.c 0)]⟩
theorem tt41 : TIOk Try.prog 41 ti41 := ⟨by kernel_rfl, by kernel_rfl, fun ρ => by kernel_rfl, by kernel_rfl⟩
def ti42 : TI := ⟨.struct [(0, 3), (1, 3), (2, 3)], 3, [.int .i64 (.c 0), .int .i64 (.c 0), .int .i64 (.c 0)]⟩
theorem tt42 : TIOk Try.prog 42 ti42 := ⟨by kernel_rfl, by kernel_rfl, fun ρ => by kernel_rfl, by kernel_rfl⟩
def ti43 : TI := ⟨.other, 1, [.val .nilFunc]⟩
theorem tt43 : TIOk Try.prog 43 ti43 := ⟨by kernel_rfl, by kernel_rfl, fun ρ => by kernel_rfl, by kernel_rfl⟩
def ti44 : TI := ⟨.slice 29, 1, [.val (.slice none 0 0)]⟩
theorem tt44 : TIOk Try.prog 44 ti44 := ⟨by kernel_rfl, by kernel_rfl, fun ρ => by kernel_rfl, by kernel_rfl⟩
def ti45 : TI := ⟨.other, 1, [.val .nilFunc]⟩
theorem tt45 : TIOk Try.prog 45 ti45 := ⟨by kernel_rfl, by kernel_rfl, fun ρ => by kernel_rfl, by kernel_rfl⟩
def ti46 : TI := ⟨.other, 1, [.val .nilFunc]⟩
theorem tt46 : TIOk Try.prog 46 ti46 := ⟨by kernel_rfl, by kernel_rfl, fun ρ => by kernel_rfl, by kernel_rfl⟩
def ti47 : TI := ⟨.other, 1, [.val .nilFunc]⟩
theorem tt47 : TIOk Try.prog 47 ti47 := ⟨by kernel_rfl, by kernel_rfl, fun ρ => by kernel_rfl, by kernel_rfl⟩
def ti48 : TI := ⟨.struct [(0, 22), (1, 3)], 2, [.val (.slice none 0 0), .int .i64 (.c 0)]⟩
theorem tt48 : TIOk Try.prog 48 ti48 := ⟨by kernel_rfl, by kernel_rfl, fun ρ => by kernel_rfl, by kernel_rfl⟩
def ti49 : TI := ⟨.struct [(0, 22), (1, 3)], 2, [.val (.slice none 0 0), .int .i64 (.c 0)]⟩
theorem tt49 : TIOk Try.prog 49 ti49 := ⟨by kernel_rfl, by kernel_rfl, fun ρ => by kernel_rfl, by kernel_rfl⟩
def ti50 : TI := ⟨.other, 1, [.val .nilFunc]⟩
theorem tt50 : TIOk Try.prog 50 ti50 := ⟨by kernel_rfl, by kernel_rfl, fun ρ => by kernel_rfl, by kernel_rfl⟩
def ti51 : TI := ⟨.int .u64, 1, [.int .u64 (.c 0)]⟩
theorem tt51 : TIOk Try.prog 51 ti51 := ⟨by kernel_rfl, by kernel_rfl, fun ρ => by kernel_rfl, by kernel_rfl⟩
def ti52 : TI := ⟨.other, 1, [.val .nilFunc]⟩
theorem tt52 : TIOk Try.prog 52 ti52 := ⟨by kernel_rfl, by kernel_rfl, fun ρ => by kernel_rfl, by kernel_rfl⟩
def ti53 : TI := ⟨.map 42 4, 1, [.val (.map none)]⟩
theorem tt53 : TIOk Try.prog 53 ti53 := ⟨by kernel_rfl, by kernel_rfl, fun ρ => by kernel_rfl, by kernel_rfl⟩
def ti54 : TI := ⟨.slice 3, 1, [.val (.slice none 0 0)]⟩
theorem tt54 : TIOk Try.prog 54 ti54 := ⟨by kernel_rfl, by kernel_rfl, fun ρ => by kernel_rfl, by kernel_rfl⟩
def ti55 : TI := ⟨.int .u64, 1, [.int .u64 (.c 0)]⟩
theorem tt55 : TIOk Try.prog 55 ti55 := ⟨by kernel_rfl, by kernel_rfl, fun ρ => by kernel_rfl, by kernel_rfl⟩
def ti56 : TI := ⟨.struct [], 0, []⟩
theorem tt56 : TIOk Try.prog 56 ti56 := ⟨by kernel_rfl, by kernel_rfl, fun ρ => by kernel_rfl, by kernel_rfl⟩
def ti57 : TI := ⟨.struct [], 0, []⟩
theorem tt57 : TIOk Try.prog 57 ti57 := ⟨by kernel_rfl, by kernel_rfl, fun ρ => by kernel_rfl, by kernel_rfl⟩
def ti59 : TI := ⟨.pointer 63, 1, [.val (.pointer none)]⟩
theorem tt59 : TIOk Try.prog 59 ti59 := ⟨by kernel_rfl, by kernel_rfl, fun ρ => by kernel_rfl, by kernel_rfl⟩
def ti60 : TI := ⟨.struct [(0, 22)], 1, [.val (.slice none 0 0)]⟩
theorem tt60 : TIOk Try.prog 60 ti60 := ⟨by kernel_rfl, by kernel_rfl, fun ρ => by kernel_rfl, by kernel_rfl⟩
def ti61 : TI := ⟨.struct [(0, 22)], 1, [.val (.slice none 0 0)]⟩
theorem tt61 : TIOk Try.prog 61 ti61 := ⟨by kernel_rfl, by kernel_rfl, fun ρ => by kernel_rfl, by kernel_rfl⟩
def ti62 : TI := ⟨.struct [(0, 61)], 1, [.val (.slice none 0 0)]⟩
theorem tt62 : TIOk Try.prog 62 ti62 := ⟨by kernel_rfl, by kernel_rfl, fun ρ => by kernel_rfl, by kernel_rfl⟩
def ti63 : TI := ⟨.struct [(0, 61)], 1, [.val (.slice none 0 0)]⟩
theorem tt63 : TIOk Try.prog 63 ti63 := ⟨by kernel_rfl, by kernel_rfl, fun ρ => by kernel_rfl, by kernel_rfl⟩
def ti65 : TI := ⟨.other, 1, [.val .nilFunc]⟩
theorem tt65 : TIOk Try.prog 65 ti65 := ⟨by kernel_rfl, by kernel_rfl, fun ρ => by kernel_rfl, by kernel_rfl⟩
def ti67 : TI := ⟨.other, 1, [.val .nilFunc]⟩
theorem tt67 : TIOk Try.prog 67 ti67 := ⟨by kernel_rfl, by kernel_rfl, fun ρ => by kernel_rfl, by kernel_rfl⟩
def ti68 : TI := ⟨.other, 1, [.val .nilFunc]⟩
theorem tt68 : TIOk Try.prog 68 ti68 := ⟨by kernel_rfl, by kernel_rfl, fun ρ => by kernel_rfl, by kernel_rfl⟩
def ti69 : TI := ⟨.other, 1, [.val .nilFunc]⟩
theorem tt69 : TIOk Try.prog 69 ti69 := ⟨by kernel_rfl, by kernel_rfl, fun ρ => by kernel_rfl, by kernel_rfl⟩
def ti70 : TI := ⟨.other, 1, [.val .nilFunc]⟩
theorem tt70 : TIOk Try.prog 70 ti70 := ⟨by kernel_rfl, by kernel_rfl, fun ρ => by kernel_rfl, by kernel_rfl⟩
def ti71 : TI := ⟨.other, 1, [.val .nilFunc]⟩
theorem tt71 : TIOk Try.prog 71 ti71 := ⟨by kernel_rfl, by kernel_rfl, fun ρ => by kernel_rfl, by kernel_rfl⟩
def ti72 : TI := ⟨.other, 1, [.val .nilFunc]⟩
theorem tt72 : TIOk Try.prog 72 ti72 := ⟨by kernel_rfl, by kernel_rfl, fun ρ => by kernel_rfl, by kernel_rfl⟩
def ti73 : TI := ⟨.other, 1, [.val .nilFunc]⟩
theorem tt73 : TIOk Try.prog 73 ti73 := ⟨by kernel_rfl, by kernel_rfl, fun ρ => by kernel_rfl, by kernel_rfl⟩
def ti74 : TI := ⟨.other, 1, [.val .nilFunc]⟩
theorem tt74 : TIOk Try.prog 74 ti74 := ⟨by kernel_rfl, by kernel_rfl, fun ρ => by kernel_rfl, by kernel_rfl⟩
def ti76 : TI := ⟨.other, 1, [.val .nilFunc]⟩
theorem tt76 : TIOk Try.prog 76 ti76 := ⟨by kernel_rfl, by kernel_rfl, fun ρ => by kernel_rfl, by kernel_rfl⟩
def ti78 : TI := ⟨.other, 1, [.val .nilFunc]⟩
theorem tt78 : TIOk Try.prog 78 ti78 := ⟨by kernel_rfl, by kernel_rfl, fun ρ => by kernel_rfl, by kernel_rfl⟩
def ti79 : TI := ⟨.other, 1, [.val .nilFunc]⟩
theorem tt79 : TIOk Try.prog 79 ti79 := ⟨by kernel_rfl, by kernel_rfl, fun ρ => by kernel_rfl, by kernel_rfl⟩
def ti81 : TI := ⟨.other, 1, [.val .nilFunc]⟩
theorem tt81 : TIOk Try.prog 81 ti81 := ⟨by kernel_rfl, by kernel_rfl, fun ρ => by kernel_rfl, by kernel_rfl⟩
def ti82 : TI := ⟨.other, 1, [.val .nilFunc]⟩
theorem tt82 : TIOk Try.prog 82 ti82 := ⟨by kernel_rfl, by kernel_rfl, fun ρ => by kernel_rfl, by kernel_rfl⟩
def ti83 : TI := ⟨.pointer 61, 1, [.val (.pointer none)]⟩
theorem tt83 : TIOk Try.prog 83 ti83 := ⟨by kernel_rfl, by kernel_rfl, fun ρ => by kernel_rfl, by kernel_rfl⟩
def ti85 : TI := ⟨.other, 1, [.val .nilFunc]⟩
theorem tt85 : TIOk Try.prog 85 ti85 := ⟨by kernel_rfl, by kernel_rfl, fun ρ => by kernel_rfl, by kernel_rfl⟩
def ti87 : TI := ⟨.other, 1, [.val .nilFunc]⟩
theorem tt87 : TIOk Try.prog 87 ti87 := ⟨by kernel_rfl, by kernel_rfl, fun ρ => by kernel_rfl, by kernel_rfl⟩
def ti89 : TI := ⟨.other, 1, [.val .nilFunc]⟩
theorem tt89 : TIOk Try.prog 89 ti89 := ⟨by kernel_rfl, by kernel_rfl, fun ρ => by kernel_rfl, by kernel_rfl⟩
def ti90 : TI := ⟨.other, 1, [.val .nilFunc]⟩
theorem tt90 : TIOk Try.prog 90 ti90 := ⟨by kernel_rfl, by kernel_rfl, fun ρ => by kernel_rfl, by kernel_rfl⟩
def ti91 : TI := ⟨.struct [(0, 17), (1, 17), (2, 17), (3, 9)], 4, [.val (.pointer none), .val (.pointer none), .val (.pointer none), .str (fun _ => ⟨#[]⟩)]⟩
theorem tt91 : TIOk Try.prog 91 ti91 := ⟨by kernel_rfl, by kernel_rfl, fun ρ => by kernel_rfl, by kernel_rfl⟩
def ti92 : TI := ⟨.struct [(0, 17), (1, 17), (2, 17), (3, 9)], 4, [.val (.pointer none), .val (.pointer none), .val (.pointer none), .str (fun _ => ⟨#[]⟩)]⟩
theorem tt92 : TIOk Try.prog 92 ti92 := ⟨by kernel_rfl, by kernel_rfl, fun ρ => by kernel_rfl, by kernel_rfl⟩
def ti96 : TI := ⟨.int .u32, 1, [.int .u32 (.c 0)]⟩
theorem tt96 : TIOk Try.prog 96 ti96 := ⟨by kernel_rfl, by kernel_rfl, fun ρ => by kernel_rfl, by kernel_rfl⟩
def ti97 : TI := ⟨.int .u8, 1, [.int .u8 (.c 0)]⟩
theorem tt97 : TIOk Try.prog 97 ti97 := ⟨by kernel_rfl, by kernel_rfl, fun ρ => by kernel_rfl, by kernel_rfl⟩
def ti98 : TI := ⟨.int .u8, 1, [.int .u8 (.c 0)]⟩
theorem tt98 : TIOk Try.prog 98 ti98 := ⟨by kernel_rfl, by kernel_rfl, fun ρ => by kernel_rfl, by kernel_rfl⟩
def ti99 : TI := ⟨.other, 1, [.val .nilFunc]⟩
theorem tt99 : TIOk Try.prog 99 ti99 := ⟨by kernel_rfl, by kernel_rfl, fun ρ => by kernel_rfl, by kernel_rfl⟩
def ti100 : TI := ⟨.pointer 5, 1, [.val (.pointer none)]⟩
theorem tt100 : TIOk Try.prog 100 ti100 := ⟨by kernel_rfl, by kernel_rfl, fun ρ => by kernel_rfl, by kernel_rfl⟩
def ti101 : TI := ⟨.int .i32, 1, [.int .i32 (.c 0)]⟩
theorem tt101 : TIOk Try.prog 101 ti101 := ⟨by kernel_rfl, by kernel_rfl, fun ρ => by kernel_rfl, by kernel_rfl⟩
def ti102 : TI := ⟨.int .i32, 1, [.int .i32 (.c 0)]⟩
theorem tt102 : TIOk Try.prog 102 ti102 := ⟨by kernel_rfl, by kernel_rfl, fun ρ => by kernel_rfl, by kernel_rfl⟩
def ti103 : TI := ⟨.struct [(0, 12), (1, 12), (2, 96), (3, 97), (4, 5), (5, 5), (6, 98), (7, 99), (8, 100), (9, 101), (10, 102)], 11, [.int .u64 (.c 0), .int .u64 (.c 0), .int .u32 (.c 0), .int .u8 (.c 0), .int .u8 (.c 0), .int .u8 (.c 0), .int .u8 (.c 0), .val .nilFunc, .val (.pointer none), .int .i32 (.c 0), .int .i32 (.c 0)]⟩
theorem tt103 : TIOk Try.prog 103 ti103 := ⟨by kernel_rfl, by kernel_rfl, fun ρ => by kernel_rfl, by kernel_rfl⟩
def ti104 : TI := ⟨.struct [(0, 12), (1, 12), (2, 96), (3, 97), (4, 5), (5, 5), (6, 98), (7, 99), (8, 100), (9, 101), (10, 102)], 11, [.int .u64 (.c 0), .int .u64 (.c 0), .int .u32 (.c 0), .int .u8 (.c 0), .int .u8 (.c 0), .int .u8 (.c 0), .int .u8 (.c 0), .val .nilFunc, .val (.pointer none), .int .i32 (.c 0), .int .i32 (.c 0)]⟩
theorem tt104 : TIOk Try.prog 104 ti104 := ⟨by kernel_rfl, by kernel_rfl, fun ρ => by kernel_rfl, by kernel_rfl⟩
def ti105 : TI := ⟨.other, 1, [.val (.pointer none)]⟩
theorem tt105 : TIOk Try.prog 105 ti105 := ⟨by kernel_rfl, by kernel_rfl, fun ρ => by kernel_rfl, by kernel_rfl⟩
/-- The types that this seat's functions meet. -/
def tt : TT := nd0 48 (nd0 23 (nd0 12 (nd0 6 (nd0 3 (nd0 2 (lf0 1 ti1) (lf0 2 ti2)) (nd0 4 (lf0 3 ti3) (nd0 5 (lf0 4 ti4) (lf0 5 ti5)))) (nd0 9 (nd0 7 (lf0 6 ti6) (nd0 8 (lf0 7 ti7) (lf0 8 ti8))) (nd0 10 (lf0 9 ti9) (nd0 11 (lf0 10 ti10) (lf0 11 ti11))))) (nd0 17 (nd0 14 (nd0 13 (lf0 12 ti12) (lf0 13 ti13)) (nd0 15 (lf0 14 ti14) (nd0 16 (lf0 15 ti15) (lf0 16 ti16)))) (nd0 20 (nd0 18 (lf0 17 ti17) (nd0 19 (lf0 18 ti18) (lf0 19 ti19))) (nd0 21 (lf0 20 ti20) (nd0 22 (lf0 21 ti21) (lf0 22 ti22)))))) (nd0 36 (nd0 29 (nd0 25 (nd0 24 (lf0 23 ti23) (lf0 24 ti24)) (nd0 26 (lf0 25 ti25) (nd0 28 (lf0 26 ti26) (lf0 28 ti28)))) (nd0 32 (nd0 30 (lf0 29 ti29) (nd0 31 (lf0 30 ti30) (lf0 31 ti31))) (nd0 33 (lf0 32 ti32) (nd0 35 (lf0 33 ti33) (lf0 35 ti35))))) (nd0 42 (nd0 39 (nd0 37 (lf0 36 ti36) (nd0 38 (lf0 37 ti37) (lf0 38 ti38))) (nd0 40 (lf0 39 ti39) (nd0 41 (lf0 40 ti40) (lf0 41 ti41)))) (nd0 45 (nd0 43 (lf0 42 ti42) (nd0 44 (lf0 43 ti43) (lf0 44 ti44))) (nd0 46 (lf0 45 ti45) (nd0 47 (lf0 46 ti46) (lf0 47 ti47))))))) (nd0 74 (nd0 60 (nd0 53 (nd0 50 (nd0 49 (lf0 48 ti48) (lf0 49 ti49)) (nd0 51 (lf0 50 ti50) (nd0 52 (lf0 51 ti51) (lf0 52 ti52)))) (nd0 56 (nd0 54 (lf0 53 ti53) (nd0 55 (lf0 54 ti54) (lf0 55 ti55))) (nd0 57 (lf0 56 ti56) (nd0 59 (lf0 57 ti57) (lf0 59 ti59))))) (nd0 68 (nd0 63 (nd0 61 (lf0 60 ti60) (nd0 62 (lf0 61 ti61) (lf0 62 ti62))) (nd0 65 (lf0 63 ti63) (nd0 67 (lf0 65 ti65) (lf0 67 ti67)))) (nd0 71 (nd0 69 (lf0 68 ti68) (nd0 70 (lf0 69 ti69) (lf0 70 ti70))) (nd0 72 (lf0 71 ti71) (nd0 73 (lf0 72 ti72) (lf0 73 ti73)))))) (nd0 91 (nd0 82 (nd0 78 (nd0 76 (lf0 74 ti74) (lf0 76 ti76)) (nd0 79 (lf0 78 ti78) (nd0 81 (lf0 79 ti79) (lf0 81 ti81)))) (nd0 87 (nd0 83 (lf0 82 ti82) (nd0 85 (lf0 83 ti83) (lf0 85 ti85))) (nd0 89 (lf0 87 ti87) (nd0 90 (lf0 89 ti89) (lf0 90 ti90))))) (nd0 100 (nd0 97 (nd0 92 (lf0 91 ti91) (nd0 96 (lf0 92 ti92) (lf0 96 ti96))) (nd0 98 (lf0 97 ti97) (nd0 99 (lf0 98 ti98) (lf0 99 ti99)))) (nd0 103 (nd0 101 (lf0 100 ti100) (nd0 102 (lf0 101 ti101) (lf0 102 ti102))) (nd0 104 (lf0 103 ti103) (nd0 105 (lf0 104 ti104) (lf0 105 ti105)))))))
theorem tt_ok : TT.ok Try.prog tt := (nd0_ok (nd0_ok (nd0_ok (nd0_ok (nd0_ok (nd0_ok (lf0_ok tt1) (lf0_ok tt2)) (nd0_ok (lf0_ok tt3) (nd0_ok (lf0_ok tt4) (lf0_ok tt5)))) (nd0_ok (nd0_ok (lf0_ok tt6) (nd0_ok (lf0_ok tt7) (lf0_ok tt8))) (nd0_ok (lf0_ok tt9) (nd0_ok (lf0_ok tt10) (lf0_ok tt11))))) (nd0_ok (nd0_ok (nd0_ok (lf0_ok tt12) (lf0_ok tt13)) (nd0_ok (lf0_ok tt14) (nd0_ok (lf0_ok tt15) (lf0_ok tt16)))) (nd0_ok (nd0_ok (lf0_ok tt17) (nd0_ok (lf0_ok tt18) (lf0_ok tt19))) (nd0_ok (lf0_ok tt20) (nd0_ok (lf0_ok tt21) (lf0_ok tt22)))))) (nd0_ok (nd0_ok (nd0_ok (nd0_ok (lf0_ok tt23) (lf0_ok tt24)) (nd0_ok (lf0_ok tt25) (nd0_ok (lf0_ok tt26) (lf0_ok tt28)))) (nd0_ok (nd0_ok (lf0_ok tt29) (nd0_ok (lf0_ok tt30) (lf0_ok tt31))) (nd0_ok (lf0_ok tt32) (nd0_ok (lf0_ok tt33) (lf0_ok tt35))))) (nd0_ok (nd0_ok (nd0_ok (lf0_ok tt36) (nd0_ok (lf0_ok tt37) (lf0_ok tt38))) (nd0_ok (lf0_ok tt39) (nd0_ok (lf0_ok tt40) (lf0_ok tt41)))) (nd0_ok (nd0_ok (lf0_ok tt42) (nd0_ok (lf0_ok tt43) (lf0_ok tt44))) (nd0_ok (lf0_ok tt45) (nd0_ok (lf0_ok tt46) (lf0_ok tt47))))))) (nd0_ok (nd0_ok (nd0_ok (nd0_ok (nd0_ok (lf0_ok tt48) (lf0_ok tt49)) (nd0_ok (lf0_ok tt50) (nd0_ok (lf0_ok tt51) (lf0_ok tt52)))) (nd0_ok (nd0_ok (lf0_ok tt53) (nd0_ok (lf0_ok tt54) (lf0_ok tt55))) (nd0_ok (lf0_ok tt56) (nd0_ok (lf0_ok tt57) (lf0_ok tt59))))) (nd0_ok (nd0_ok (nd0_ok (lf0_ok tt60) (nd0_ok (lf0_ok tt61) (lf0_ok tt62))) (nd0_ok (lf0_ok tt63) (nd0_ok (lf0_ok tt65) (lf0_ok tt67)))) (nd0_ok (nd0_ok (lf0_ok tt68) (nd0_ok (lf0_ok tt69) (lf0_ok tt70))) (nd0_ok (lf0_ok tt71) (nd0_ok (lf0_ok tt72) (lf0_ok tt73)))))) (nd0_ok (nd0_ok (nd0_ok (nd0_ok (lf0_ok tt74) (lf0_ok tt76)) (nd0_ok (lf0_ok tt78) (nd0_ok (lf0_ok tt79) (lf0_ok tt81)))) (nd0_ok (nd0_ok (lf0_ok tt82) (nd0_ok (lf0_ok tt83) (lf0_ok tt85))) (nd0_ok (lf0_ok tt87) (nd0_ok (lf0_ok tt89) (lf0_ok tt90))))) (nd0_ok (nd0_ok (nd0_ok (lf0_ok tt91) (nd0_ok (lf0_ok tt92) (lf0_ok tt96))) (nd0_ok (lf0_ok tt97) (nd0_ok (lf0_ok tt98) (lf0_ok tt99)))) (nd0_ok (nd0_ok (lf0_ok tt100) (nd0_ok (lf0_ok tt101) (lf0_ok tt102))) (nd0_ok (lf0_ok tt103) (nd0_ok (lf0_ok tt104) (lf0_ok tt105))))))))
theorem ek2 : EKOk Try.prog 2 (.int) := ⟨_, Try.underlying2⟩
theorem ek3 : EKOk Try.prog 3 (.int) := ⟨_, Try.underlying3⟩
theorem ek4 : EKOk Try.prog 4 (.bool) := Try.underlying4
theorem ek5 : EKOk Try.prog 5 (.int) := ⟨_, Try.underlying5⟩
theorem ek9 : EKOk Try.prog 9 (.str) := Try.underlying9
theorem ek21 : EKOk Try.prog 21 (.int) := ⟨_, Try.underlying21⟩
theorem ek26 : EKOk Try.prog 26 (.int) := ⟨_, Try.underlying26⟩
theorem ek41 : EKOk Try.prog 41 (.struct [(0, 3), (1, 3), (2, 3)]) := by exact (⟨by kernel_rfl, by kernel_rfl, by kernel_rfl⟩ : EKS Try.prog 41 [(0, 3), (1, 3), (2, 3)])
theorem ek42 : EKOk Try.prog 42 (.struct [(0, 3), (1, 3), (2, 3)]) := by exact (⟨by kernel_rfl, by kernel_rfl, by kernel_rfl⟩ : EKS Try.prog 42 [(0, 3), (1, 3), (2, 3)])
theorem ek51 : EKOk Try.prog 51 (.int) := ⟨_, Try.underlying51⟩
theorem ek55 : EKOk Try.prog 55 (.int) := ⟨_, Try.underlying55⟩
theorem ek56 : EKOk Try.prog 56 (.struct []) := by exact (⟨by kernel_rfl, by kernel_rfl, by kernel_rfl⟩ : EKS Try.prog 56 [])
theorem ek57 : EKOk Try.prog 57 (.struct []) := by exact (⟨by kernel_rfl, by kernel_rfl, by kernel_rfl⟩ : EKS Try.prog 57 [])
theorem ek96 : EKOk Try.prog 96 (.int) := ⟨_, Try.underlying96⟩
def et : ET := nd0 41 (nd0 5 (nd0 3 (lf0 2 (.int)) (nd0 4 (lf0 3 (.int)) (lf0 4 (.bool)))) (nd0 21 (nd0 9 (lf0 5 (.int)) (lf0 9 (.str))) (nd0 26 (lf0 21 (.int)) (lf0 26 (.int))))) (nd0 55 (nd0 42 (lf0 41 (.struct [(0, 3), (1, 3), (2, 3)])) (nd0 51 (lf0 42 (.struct [(0, 3), (1, 3), (2, 3)])) (lf0 51 (.int)))) (nd0 57 (nd0 56 (lf0 55 (.int)) (lf0 56 (.struct []))) (nd0 96 (lf0 57 (.struct [])) (lf0 96 (.int)))))
theorem et_ok : ET.ok Try.prog et := (nd0_ok (nd0_ok (nd0_ok (lf0_ok ek2) (nd0_ok (lf0_ok ek3) (lf0_ok ek4))) (nd0_ok (nd0_ok (lf0_ok ek5) (lf0_ok ek9)) (nd0_ok (lf0_ok ek21) (lf0_ok ek26)))) (nd0_ok (nd0_ok (lf0_ok ek41) (nd0_ok (lf0_ok ek42) (lf0_ok ek51))) (nd0_ok (nd0_ok (lf0_ok ek55) (lf0_ok ek56)) (nd0_ok (lf0_ok ek57) (lf0_ok ek96)))))
theorem eg41 : Try.prog.eqGuardType Try.prog.depth 41 = false := by kernel_rfl
theorem eg42 : Try.prog.eqGuardType Try.prog.depth 42 = false := by kernel_rfl
theorem eg56 : Try.prog.eqGuardType Try.prog.depth 56 = false := by kernel_rfl
theorem eg57 : Try.prog.eqGuardType Try.prog.depth 57 = false := by kernel_rfl
def qt : EqT := nd0 56 (nd0 42 (lf0 41 (eqF tt et 41)) (lf0 42 (eqF tt et 42))) (nd0 57 (lf0 56 (eqF tt et 56)) (lf0 57 (eqF tt et 57)))
theorem qt_ok : EqT.ok Try.prog qt := (nd0_ok (nd0_ok (lf0_ok (eqF_ok tt_ok et_ok eg41)) (lf0_ok (eqF_ok tt_ok et_ok eg42))) (nd0_ok (lf0_ok (eqF_ok tt_ok et_ok eg56)) (lf0_ok (eqF_ok tt_ok et_ok eg57))))
def bt : TypeId → Option Nat := nd0 48 (nd0 23 (nd0 12 (nd0 6 (nd0 3 (nd0 2 (lf0 1 8) (lf0 2 8)) (nd0 4 (lf0 3 8) (nd0 5 (lf0 4 1) (lf0 5 1)))) (nd0 9 (nd0 7 (lf0 6 1) (nd0 8 (lf0 7 24) (lf0 8 24))) (nd0 10 (lf0 9 16) (nd0 11 (lf0 10 16) (lf0 11 16))))) (nd0 17 (nd0 14 (nd0 13 (lf0 12 8) (lf0 13 24)) (nd0 15 (lf0 14 24) (nd0 16 (lf0 15 8) (lf0 16 8)))) (nd0 20 (nd0 18 (lf0 17 8) (nd0 19 (lf0 18 8) (lf0 19 8))) (nd0 21 (lf0 20 16) (nd0 22 (lf0 21 4) (lf0 22 24)))))) (nd0 36 (nd0 29 (nd0 25 (nd0 24 (lf0 23 8) (lf0 24 8)) (nd0 26 (lf0 25 8) (nd0 28 (lf0 26 8) (lf0 28 8)))) (nd0 32 (nd0 30 (lf0 29 24) (nd0 31 (lf0 30 8) (lf0 31 8))) (nd0 33 (lf0 32 8) (nd0 35 (lf0 33 24) (lf0 35 8))))) (nd0 42 (nd0 39 (nd0 37 (lf0 36 8) (nd0 38 (lf0 37 8) (lf0 38 24))) (nd0 40 (lf0 39 64) (nd0 41 (lf0 40 64) (lf0 41 24)))) (nd0 45 (nd0 43 (lf0 42 24) (nd0 44 (lf0 43 8) (lf0 44 24))) (nd0 46 (lf0 45 8) (nd0 47 (lf0 46 8) (lf0 47 8))))))) (nd0 74 (nd0 60 (nd0 53 (nd0 50 (nd0 49 (lf0 48 32) (lf0 49 32)) (nd0 51 (lf0 50 8) (nd0 52 (lf0 51 8) (lf0 52 8)))) (nd0 56 (nd0 54 (lf0 53 8) (nd0 55 (lf0 54 24) (lf0 55 8))) (nd0 57 (lf0 56 0) (nd0 59 (lf0 57 0) (lf0 59 8))))) (nd0 68 (nd0 63 (nd0 61 (lf0 60 24) (nd0 62 (lf0 61 24) (lf0 62 24))) (nd0 65 (lf0 63 24) (nd0 67 (lf0 65 8) (lf0 67 8)))) (nd0 71 (nd0 69 (lf0 68 8) (nd0 70 (lf0 69 8) (lf0 70 8))) (nd0 72 (lf0 71 8) (nd0 73 (lf0 72 8) (lf0 73 8)))))) (nd0 91 (nd0 82 (nd0 78 (nd0 76 (lf0 74 8) (lf0 76 8)) (nd0 79 (lf0 78 8) (nd0 81 (lf0 79 8) (lf0 81 8)))) (nd0 87 (nd0 83 (lf0 82 8) (nd0 85 (lf0 83 8) (lf0 85 8))) (nd0 89 (lf0 87 8) (nd0 90 (lf0 89 8) (lf0 90 8))))) (nd0 100 (nd0 97 (nd0 92 (lf0 91 40) (nd0 96 (lf0 92 40) (lf0 96 4))) (nd0 98 (lf0 97 1) (nd0 99 (lf0 98 1) (lf0 99 8)))) (nd0 103 (nd0 101 (lf0 100 8) (nd0 102 (lf0 101 4) (lf0 102 4))) (nd0 104 (lf0 103 48) (nd0 105 (lf0 104 48) (lf0 105 8)))))))
theorem bt_ok : BtOk Try.prog bt := ⟨(nd0_ok (nd0_ok (nd0_ok (nd0_ok (nd0_ok (nd0_ok (lf0_ok (bt1 (by kernel_rfl))) (lf0_ok (bt1 (by kernel_rfl)))) (nd0_ok (lf0_ok (bt1 (by kernel_rfl))) (nd0_ok (lf0_ok (bt1 (by kernel_rfl))) (lf0_ok (bt1 (by kernel_rfl)))))) (nd0_ok (nd0_ok (lf0_ok (bt1 (by kernel_rfl))) (nd0_ok (lf0_ok (bt1 (by kernel_rfl))) (lf0_ok (bt1 (by kernel_rfl))))) (nd0_ok (lf0_ok (bt1 (by kernel_rfl))) (nd0_ok (lf0_ok (bt1 (by kernel_rfl))) (lf0_ok (bt1 (by kernel_rfl))))))) (nd0_ok (nd0_ok (nd0_ok (lf0_ok (bt1 (by kernel_rfl))) (lf0_ok (bt1 (by kernel_rfl)))) (nd0_ok (lf0_ok (bt1 (by kernel_rfl))) (nd0_ok (lf0_ok (bt1 (by kernel_rfl))) (lf0_ok (bt1 (by kernel_rfl)))))) (nd0_ok (nd0_ok (lf0_ok (bt1 (by kernel_rfl))) (nd0_ok (lf0_ok (bt1 (by kernel_rfl))) (lf0_ok (bt1 (by kernel_rfl))))) (nd0_ok (lf0_ok (bt1 (by kernel_rfl))) (nd0_ok (lf0_ok (bt1 (by kernel_rfl))) (lf0_ok (bt1 (by kernel_rfl)))))))) (nd0_ok (nd0_ok (nd0_ok (nd0_ok (lf0_ok (bt1 (by kernel_rfl))) (lf0_ok (bt1 (by kernel_rfl)))) (nd0_ok (lf0_ok (bt1 (by kernel_rfl))) (nd0_ok (lf0_ok (bt1 (by kernel_rfl))) (lf0_ok (bt1 (by kernel_rfl)))))) (nd0_ok (nd0_ok (lf0_ok (bt1 (by kernel_rfl))) (nd0_ok (lf0_ok (bt1 (by kernel_rfl))) (lf0_ok (bt1 (by kernel_rfl))))) (nd0_ok (lf0_ok (bt1 (by kernel_rfl))) (nd0_ok (lf0_ok (bt1 (by kernel_rfl))) (lf0_ok (bt1 (by kernel_rfl))))))) (nd0_ok (nd0_ok (nd0_ok (lf0_ok (bt1 (by kernel_rfl))) (nd0_ok (lf0_ok (bt1 (by kernel_rfl))) (lf0_ok (bt1 (by kernel_rfl))))) (nd0_ok (lf0_ok (bt1 (by kernel_rfl))) (nd0_ok (lf0_ok (bt1 (by kernel_rfl))) (lf0_ok (bt1 (by kernel_rfl)))))) (nd0_ok (nd0_ok (lf0_ok (bt1 (by kernel_rfl))) (nd0_ok (lf0_ok (bt1 (by kernel_rfl))) (lf0_ok (bt1 (by kernel_rfl))))) (nd0_ok (lf0_ok (bt1 (by kernel_rfl))) (nd0_ok (lf0_ok (bt1 (by kernel_rfl))) (lf0_ok (bt1 (by kernel_rfl))))))))) (nd0_ok (nd0_ok (nd0_ok (nd0_ok (nd0_ok (lf0_ok (bt1 (by kernel_rfl))) (lf0_ok (bt1 (by kernel_rfl)))) (nd0_ok (lf0_ok (bt1 (by kernel_rfl))) (nd0_ok (lf0_ok (bt1 (by kernel_rfl))) (lf0_ok (bt1 (by kernel_rfl)))))) (nd0_ok (nd0_ok (lf0_ok (bt1 (by kernel_rfl))) (nd0_ok (lf0_ok (bt1 (by kernel_rfl))) (lf0_ok (bt1 (by kernel_rfl))))) (nd0_ok (lf0_ok (bt1 (by kernel_rfl))) (nd0_ok (lf0_ok (bt1 (by kernel_rfl))) (lf0_ok (bt1 (by kernel_rfl))))))) (nd0_ok (nd0_ok (nd0_ok (lf0_ok (bt1 (by kernel_rfl))) (nd0_ok (lf0_ok (bt1 (by kernel_rfl))) (lf0_ok (bt1 (by kernel_rfl))))) (nd0_ok (lf0_ok (bt1 (by kernel_rfl))) (nd0_ok (lf0_ok (bt1 (by kernel_rfl))) (lf0_ok (bt1 (by kernel_rfl)))))) (nd0_ok (nd0_ok (lf0_ok (bt1 (by kernel_rfl))) (nd0_ok (lf0_ok (bt1 (by kernel_rfl))) (lf0_ok (bt1 (by kernel_rfl))))) (nd0_ok (lf0_ok (bt1 (by kernel_rfl))) (nd0_ok (lf0_ok (bt1 (by kernel_rfl))) (lf0_ok (bt1 (by kernel_rfl)))))))) (nd0_ok (nd0_ok (nd0_ok (nd0_ok (lf0_ok (bt1 (by kernel_rfl))) (lf0_ok (bt1 (by kernel_rfl)))) (nd0_ok (lf0_ok (bt1 (by kernel_rfl))) (nd0_ok (lf0_ok (bt1 (by kernel_rfl))) (lf0_ok (bt1 (by kernel_rfl)))))) (nd0_ok (nd0_ok (lf0_ok (bt1 (by kernel_rfl))) (nd0_ok (lf0_ok (bt1 (by kernel_rfl))) (lf0_ok (bt1 (by kernel_rfl))))) (nd0_ok (lf0_ok (bt1 (by kernel_rfl))) (nd0_ok (lf0_ok (bt1 (by kernel_rfl))) (lf0_ok (bt1 (by kernel_rfl))))))) (nd0_ok (nd0_ok (nd0_ok (lf0_ok (bt1 (by kernel_rfl))) (nd0_ok (lf0_ok (bt1 (by kernel_rfl))) (lf0_ok (bt1 (by kernel_rfl))))) (nd0_ok (lf0_ok (bt1 (by kernel_rfl))) (nd0_ok (lf0_ok (bt1 (by kernel_rfl))) (lf0_ok (bt1 (by kernel_rfl)))))) (nd0_ok (nd0_ok (lf0_ok (bt1 (by kernel_rfl))) (nd0_ok (lf0_ok (bt1 (by kernel_rfl))) (lf0_ok (bt1 (by kernel_rfl))))) (nd0_ok (lf0_ok (bt1 (by kernel_rfl))) (nd0_ok (lf0_ok (bt1 (by kernel_rfl))) (lf0_ok (bt1 (by kernel_rfl))))))))))⟩
def st : TypeId → Option Shp := nd0 40 (nd0 12 (nd0 7 (nd0 4 (nd0 3 (lf0 2 (.int .i64)) (lf0 3 (.int .i64))) (nd0 5 (lf0 4 .bool) (nd0 6 (lf0 5 .byte) (lf0 6 .byte)))) (nd0 9 (nd0 8 (lf0 7 (.st [(.int .i64), (.int .i64), .bool, .byte])) (lf0 8 (.st [(.int .i64), (.int .i64), .bool, .byte]))) (nd0 10 (lf0 9 .str) (nd0 11 (lf0 10 .str) (lf0 11 .str))))) (nd0 26 (nd0 14 (nd0 13 (lf0 12 (.int .u64)) (lf0 13 (.st [.str, (.int .u64)]))) (nd0 21 (lf0 14 (.st [.str, (.int .u64)])) (nd0 22 (lf0 21 (.int .i32)) (lf0 22 (.sl .byte))))) (nd0 33 (nd0 29 (lf0 26 (.int .i64)) (lf0 29 (.sl (.st [(.int .i64), (.int .i64), (.sl .byte), (.sl (.st [(.int .i64), (.int .i64), (.int .i64)]))])))) (nd0 38 (lf0 33 (.sl (.sl .byte))) (nd0 39 (lf0 38 (.sl (.st [(.int .i64), (.int .i64), (.int .i64)]))) (lf0 39 (.st [(.int .i64), (.int .i64), (.sl .byte), (.sl (.st [(.int .i64), (.int .i64), (.int .i64)]))]))))))) (nd0 57 (nd0 49 (nd0 42 (nd0 41 (lf0 40 (.st [(.int .i64), (.int .i64), (.sl .byte), (.sl (.st [(.int .i64), (.int .i64), (.int .i64)]))])) (lf0 41 (.st [(.int .i64), (.int .i64), (.int .i64)]))) (nd0 44 (lf0 42 (.st [(.int .i64), (.int .i64), (.int .i64)])) (nd0 48 (lf0 44 (.sl (.sl (.st [(.int .i64), (.int .i64), (.sl .byte), (.sl (.st [(.int .i64), (.int .i64), (.int .i64)]))])))) (lf0 48 (.st [(.sl .byte), (.int .i64)]))))) (nd0 54 (nd0 51 (lf0 49 (.st [(.sl .byte), (.int .i64)])) (lf0 51 (.int .u64))) (nd0 55 (lf0 54 (.sl (.int .i64))) (nd0 56 (lf0 55 (.int .u64)) (lf0 56 (.st [])))))) (nd0 96 (nd0 61 (nd0 60 (lf0 57 (.st [])) (lf0 60 (.st [(.sl .byte)]))) (nd0 62 (lf0 61 (.st [(.sl .byte)])) (nd0 63 (lf0 62 (.st [(.st [(.sl .byte)])])) (lf0 63 (.st [(.st [(.sl .byte)])]))))) (nd0 98 (nd0 97 (lf0 96 (.int .u32)) (lf0 97 .byte)) (nd0 101 (lf0 98 .byte) (nd0 102 (lf0 101 (.int .i32)) (lf0 102 (.int .i32)))))))
theorem mixed_ok : Try.prog.follows .mixedOrders = true := by kernel_rfl
end Go.Proofs.Ytkeefgiajogkkaa.V
