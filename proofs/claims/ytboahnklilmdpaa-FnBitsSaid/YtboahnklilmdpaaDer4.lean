/- Bases: walks. -/
import Derived.Test.YtboahnklilmdpaaDer3
import Derived.Test.YtboahnklilmdpaaBa
namespace Go.Proofs.Ytboahnklilmdpaa
open Go.RowKit
set_option linter.unusedSimpArgs false
set_option linter.unusedVariables false

def sH : ByteArray := { data := #[104] }
def sHs : ByteArray := { data := #[104, 115] }
end Go.Proofs.Ytboahnklilmdpaa
