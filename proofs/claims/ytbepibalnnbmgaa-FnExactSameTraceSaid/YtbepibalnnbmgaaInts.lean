/- Walks: the laws' own functions on slices of int. -/
import Derived.Test.YtbepibalnnbmgaaBase
import Derived.Test.YtbepibalnnbmgaaProg
set_option linter.unusedSimpArgs false
set_option linter.unusedVariables false
namespace Go.Proofs.Ytbepibalnnbmgaa
open Go Go.RowKit

end Go.Proofs.Ytbepibalnnbmgaa
