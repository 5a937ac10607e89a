/- Walks: SealedDigest. -/
import Derived.Test.YtbcaknmpbkapnaaSea4
import Derived.Test.YtbcaknmpbkapnaaHashS
namespace Go.Proofs.Ytbcaknmpbkapnaa
open Go.RowKit
set_option linter.unusedSimpArgs false
set_option linter.unusedVariables false

theorem seaR_length (d : SealedD) : (seaR d).length ≤ 400 := by
  unfold seaR; split
  · rename_i h
    unfold seaB at h
    rw [Bool.and_eq_true] at h
    exact recB_len h.2
  · simp
def sSealed : ByteArray := ⟨#[115, 101, 97, 108, 101, 100]⟩
def sdB (d : SealedD) : Bool := seaB d && labelledB sSealed (seaR d)
def sdI (d : SealedD) : Int := if seaB d = true then labelledI sSealed (seaR d) else 0
end Go.Proofs.Ytbcaknmpbkapnaa
