import Derived.Test.YtiinlanpinanhaaKeep
import Derived.Test.YtiinlanpinanhaaSelPlain
namespace Go.Proofs.Ytiinlanpinanhaa
open Go.RowKit

def cA (a : Adr) : Array Value := #[.int .i64 a.fam, .int .u64 a.hi, .int .u64 a.lo]
def cS (s : Sel) : Array Value := #[.int .i64 s.pr, .int .i64 s.pl, .int .i64 s.ph, .int .i64 s.lo.fam, .int .u64 s.lo.hi, .int .u64 s.lo.lo, .int .i64 s.hi.fam, .int .u64 s.hi.hi, .int .u64 s.hi.lo]
end Go.Proofs.Ytiinlanpinanhaa
