/- Draws: proofs of one of several to be checked (printed by gen_dr2.py). -/
import Derived.Test.YtegomgnlhcbmfaaDrOneW
import Derived.Test.YtegomgnlhcbmfaaSumLW
import Derived.Test.YtegomgnlhcbmfaaOne5W
namespace Go.Proofs.Ytegomgnlhcbmfaa
open Go.RowKit
set_option linter.unusedSimpArgs false
set_option linter.unusedVariables false

theorem ooF_len (gr : GroupD) (s : ByteArray) (l : List EqualLogD) (k x : Int) (cs : List Int) : (ooF gr s l k x cs).c.length ≤ 30 ∧ (ooF gr s l k x cs).h.length ≤ 30 ∧ (ooF gr s l k x cs).r.length ≤ 30 := by
  unfold ooF
  split
  · rename_i h
    obtain ⟨_, _, h3, _⟩ := ooB_parts h
    have h4 := (stB_len h3).2
    refine ⟨?_, ?_, ?_⟩
    · show (ooCs gr l k.toNat cs l.length).length ≤ 30
      rw [ooCs_len]; omega
    · show ((ooHs k.toNat cs l.length).set k.toNat (ooOwn gr s l k.toNat cs)).length ≤ 30
      rw [List.length_set, ooHs_len]; omega
    · show ((ooRs k.toNat cs l.length).set k.toNat _).length ≤ 30
      rw [List.length_set, ooRs_len]; omega
  · exact ⟨by decide, by decide, by decide⟩
end Go.Proofs.Ytegomgnlhcbmfaa
