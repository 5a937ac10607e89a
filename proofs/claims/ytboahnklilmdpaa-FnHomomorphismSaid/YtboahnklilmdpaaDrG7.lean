/- Draws: products of powers, logarithms. -/
import Derived.Test.YtboahnklilmdpaaDrG6
import Derived.Test.YtboahnklilmdpaaRegV
namespace Go.Proofs.Ytboahnklilmdpaa
open Go.RowKit
set_option linter.unusedSimpArgs false
set_option linter.unusedVariables false

end Go.Proofs.Ytboahnklilmdpaa
