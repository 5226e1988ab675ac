/- Walks: the laws' own functions on edges and coupling graphs. -/
import Derived.Test.YteehfidjofcfmaaW1
import Derived.Test.YteehfidjofcfmaaProg
set_option linter.unusedSimpArgs false
set_option linter.unusedVariables false
namespace Go.Proofs.Yteehfidjofcfmaa
open Go Go.RowKit

end Go.Proofs.Yteehfidjofcfmaa
