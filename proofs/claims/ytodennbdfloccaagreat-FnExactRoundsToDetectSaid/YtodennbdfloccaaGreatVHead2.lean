/- Walks: VerifyHead. -/
import Derived.Test.YtodennbdfloccaaGreatVHead
namespace Go.Proofs.YtodennbdfloccaaGreat
open Go.RowKit
set_option linter.unusedSimpArgs false
set_option linter.unusedVariables false

/-- a valid group and a key -/
noncomputable def keyB (gr : GroupD) (key : Int) : Bool := goodG gr && elB gr key
noncomputable def vhR (gr : GroupD) (key : Int) (d : HeadD) : Bool := keyB gr key && isHeadB gr key d
end Go.Proofs.YtodennbdfloccaaGreat
