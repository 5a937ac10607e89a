/- Bases: the program's walk. -/
import Derived.Test.YtboahnklilmdpaaDer4
namespace Go.Proofs.Ytboahnklilmdpaa
open Go.RowKit
set_option linter.unusedSimpArgs false
set_option linter.unusedVariables false

theorem BoxN.belowB {w w' : World} {b B : Nat} {t : TypeId} {cs : List Value} (h : BoxN w b t cs) (hb : Below B w w') (hB : b < B) : BoxN w' b t cs := (hb.block b hB).trans h
end Go.Proofs.Ytboahnklilmdpaa
