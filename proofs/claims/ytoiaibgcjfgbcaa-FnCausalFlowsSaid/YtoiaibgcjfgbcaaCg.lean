/- Walks: the laws' own functions on edges and coupling graphs. -/
import Derived.Test.YtoiaibgcjfgbcaaW1
import Derived.Test.YtoiaibgcjfgbcaaProg
set_option linter.unusedSimpArgs false
set_option linter.unusedVariables false
namespace Go.Proofs.Ytoiaibgcjfgbcaa
open Go Go.RowKit

end Go.Proofs.Ytoiaibgcjfgbcaa
