/- math/bits.Len and OnesCount: the first two after the kit's own template. -/
import Derived.Test.YtboahnklilmdpaaChecked
import Derived.Lib.Strings
import Derived.Lib.Slices
import Derived.Lib.Small
import Derived.Lib.Walk
import Derived.Lib.BitFns
namespace Go.Proofs.Ytboahnklilmdpaa

end Go.Proofs.Ytboahnklilmdpaa
