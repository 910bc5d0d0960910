/- Shapes of headers, payloads, messages. -/
import Derived.Test.YtbdfijdianaghaaVPd
set_option linter.unusedVariables false
set_option linter.unusedSimpArgs false
namespace Go.Proofs.Ytbdfijdianaghaa.V
open Go.RowKit
abbrev hdE : Shp := .st [.int .u64, .int .u64, .int .i64, .int .i64, .int .i64, .int .u32]
abbrev HdT : Type := Int × Int × Int × Int × Int × Int × Unit
abbrev idE : Shp := .st [.int .i64, .sl .byte]
abbrev notE : Shp := .st [.int .i64, .sl .byte, .int .i64, .sl .byte]
abbrev delE : Shp := .st [.int .i64, .sl (.sl .byte)]
abbrev plE : Shp := .st [.int .i64, .sl prE, idE, idE, idE, notE, delE, .sl selE, .sl .byte]
abbrev msgE : Shp := .st [hdE, .sl plE]
abbrev rawE : Shp := .st [.int .i64, .bool, .sl .byte]
end Go.Proofs.Ytbdfijdianaghaa.V
