/- math/bits.Len and OnesCount: the first two after the kit's own template. -/
import Derived.Test.YtbcaknmpbkapnaaChecked
import Derived.Lib.Strings
import Derived.Lib.Slices
import Derived.Lib.Small
import Derived.Lib.Walk
import Derived.Lib.BitFns
namespace Go.Proofs.Ytbcaknmpbkapnaa

end Go.Proofs.Ytbcaknmpbkapnaa
