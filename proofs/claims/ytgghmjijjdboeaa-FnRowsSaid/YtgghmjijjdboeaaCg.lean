/- Walks: the laws' own functions on edges and coupling graphs. -/
import Derived.Test.YtgghmjijjdboeaaW1
import Derived.Test.YtgghmjijjdboeaaProg
set_option linter.unusedSimpArgs false
set_option linter.unusedVariables false
namespace Go.Proofs.Ytgghmjijjdboeaa
open Go Go.RowKit

end Go.Proofs.Ytgghmjijjdboeaa
