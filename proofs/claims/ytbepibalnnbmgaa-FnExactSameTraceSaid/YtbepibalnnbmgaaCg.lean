/- Walks: the laws' own functions on edges and coupling graphs. -/
import Derived.Test.YtbepibalnnbmgaaW1
import Derived.Test.YtbepibalnnbmgaaProg
set_option linter.unusedSimpArgs false
set_option linter.unusedVariables false
namespace Go.Proofs.Ytbepibalnnbmgaa
open Go Go.RowKit

end Go.Proofs.Ytbepibalnnbmgaa
