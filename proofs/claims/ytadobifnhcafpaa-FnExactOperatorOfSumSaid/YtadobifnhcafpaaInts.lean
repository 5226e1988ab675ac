/- Walks: the laws' own functions on slices of int. -/
import Derived.Test.YtadobifnhcafpaaBase
import Derived.Test.YtadobifnhcafpaaProg
set_option linter.unusedSimpArgs false
set_option linter.unusedVariables false
namespace Go.Proofs.Ytadobifnhcafpaa
open Go Go.RowKit

end Go.Proofs.Ytadobifnhcafpaa
