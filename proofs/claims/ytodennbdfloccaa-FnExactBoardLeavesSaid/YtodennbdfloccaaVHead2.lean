/- Walks: VerifyHead. -/
import Derived.Test.YtodennbdfloccaaVHead
namespace Go.Proofs.Ytodennbdfloccaa
open Go.RowKit
set_option linter.unusedSimpArgs false
set_option linter.unusedVariables false

/-- a valid group and a key -/
noncomputable def keyB (gr : GroupD) (key : Int) : Bool := goodG gr && elB gr key
noncomputable def vhR (gr : GroupD) (key : Int) (d : HeadD) : Bool := keyB gr key && isHeadB gr key d
end Go.Proofs.Ytodennbdfloccaa
