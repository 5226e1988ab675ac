/- Walks: the laws' own functions on slices of int. -/
import Derived.Test.YtoiaibgcjfgbcaaBase
import Derived.Test.YtoiaibgcjfgbcaaProg
set_option linter.unusedSimpArgs false
set_option linter.unusedVariables false
namespace Go.Proofs.Ytoiaibgcjfgbcaa
open Go Go.RowKit

end Go.Proofs.Ytoiaibgcjfgbcaa
