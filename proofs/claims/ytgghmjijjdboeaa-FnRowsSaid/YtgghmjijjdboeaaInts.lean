/- Walks: the laws' own functions on slices of int. -/
import Derived.Test.YtgghmjijjdboeaaBase
import Derived.Test.YtgghmjijjdboeaaProg
set_option linter.unusedSimpArgs false
set_option linter.unusedVariables false
namespace Go.Proofs.Ytgghmjijjdboeaa
open Go Go.RowKit

end Go.Proofs.Ytgghmjijjdboeaa
