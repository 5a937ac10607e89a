/- Walks: Merkle trees. -/
import Derived.Test.YtapfceghgkmgoaaMerkleP
import Derived.Test.YtapfceghgkmgoaaBitsLen
namespace Go.Proofs.Ytapfceghgkmgoaa
open Go.RowKit
set_option linter.unusedSimpArgs false
set_option linter.unusedVariables false

end Go.Proofs.Ytapfceghgkmgoaa
