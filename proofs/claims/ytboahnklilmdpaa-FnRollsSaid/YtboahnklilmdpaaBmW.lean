/- Bundle of walks and laws: MerkleP, Merkle, Merkle2, Merkle3, Merkle4, Sets, ReachP, Reach, Reach2, Entry. -/
import Derived.Test.YtboahnklilmdpaaBaW
import Derived.Lib.BitFns
import Derived.Test.YtboahnklilmdpaaChecked
import Derived.Lib.Strings
import Derived.Lib.Slices
import Derived.Lib.Small
import Derived.Lib.Walk
import Derived.Deep.QuietTactic
import Derived.BigQuiet
/- Merkle trees as functions on lists: plain Lean. -/



namespace Go.Proofs.Ytboahnklilmdpaa
open Go.RowKit

/-- the number of binary digits 1 -/
def onesF : Nat → Nat → Nat
  | 0, _ => 0
  | f + 1, n => n % 2 + onesF f (n / 2)
def ones (n : Nat) : Nat := onesF 7 n
end Go.Proofs.Ytboahnklilmdpaa
/- Walks: Merkle trees. -/


namespace Go.Proofs.Ytboahnklilmdpaa
open Go.RowKit
set_option linter.unusedSimpArgs false
set_option linter.unusedVariables false

end Go.Proofs.Ytboahnklilmdpaa
/- Walks: paths of Merkle trees (printed by gen_merkle2.py). -/

namespace Go.Proofs.Ytboahnklilmdpaa
open Go.RowKit
set_option linter.unusedSimpArgs false
set_option linter.unusedVariables false

end Go.Proofs.Ytboahnklilmdpaa
/- Walks: InclusionPath and ConsistencyPath (printed by gen_merkle3.py). -/

namespace Go.Proofs.Ytboahnklilmdpaa
open Go.RowKit
set_option linter.unusedSimpArgs false
set_option linter.unusedVariables false

end Go.Proofs.Ytboahnklilmdpaa
/- Walks: VerifyConsistency (printed by gen_merkle4.py). -/

namespace Go.Proofs.Ytboahnklilmdpaa
open Go.RowKit
set_option linter.unusedSimpArgs false
set_option linter.unusedVariables false

end Go.Proofs.Ytboahnklilmdpaa
/- Walks: sorted lists as sets (spec.l1Has, spec.l1Put). -/

namespace Go.Proofs.Ytboahnklilmdpaa
open Go.RowKit
set_option linter.unusedSimpArgs false
set_option linter.unusedVariables false

end Go.Proofs.Ytboahnklilmdpaa
/- The plain law of ReachOf: a set as a sorted list, and as marks. -/

namespace Go.Proofs.Ytboahnklilmdpaa
set_option linter.unusedSimpArgs false
set_option linter.unusedVariables false

end Go.Proofs.Ytboahnklilmdpaa
/- Walks: ReachOf. -/




namespace Go.Proofs.Ytboahnklilmdpaa
open Go.RowKit
set_option linter.unusedSimpArgs false
set_option linter.unusedVariables false

end Go.Proofs.Ytboahnklilmdpaa
/- Walks: pairs of readers (impl.arePairs). -/

namespace Go.Proofs.Ytboahnklilmdpaa
open Go.RowKit
set_option linter.unusedSimpArgs false
set_option linter.unusedVariables false

end Go.Proofs.Ytboahnklilmdpaa
/- Entries of a board: the digest of an entry. -/

namespace Go.Proofs.Ytboahnklilmdpaa
open Go.RowKit
set_option linter.unusedSimpArgs false
set_option linter.unusedVariables false

end Go.Proofs.Ytboahnklilmdpaa
