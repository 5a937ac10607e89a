/- Walks: MergeHeads. -/
import Derived.Test.YtodennbdfloccaaGreatMerge6h
namespace Go.Proofs.YtodennbdfloccaaGreat
open Go.RowKit
set_option linter.unusedSimpArgs false
set_option linter.unusedVariables false

def mhB (a b : List HeadD) : Bool := headsB a && (headsB b && decide ((mergeL a b).length ≤ 20))
def mhL (a b : List HeadD) : List HeadD := if mhB a b = true then mergeL a b else []
theorem le_sum_of_mem : ∀ {l : List Nat} {x : Nat}, x ∈ l → x ≤ l.sum
  | [], _, h => by simp at h
  | a :: l, x, h => by
    rw [List.sum_cons]
    rcases List.mem_cons.1 h with rfl | h
    · omega
    · have := le_sum_of_mem h; omega
theorem headsB_small {ds : List HeadD} (h : (szHeadS ds : Int) ≤ 1000000000) (hb : headsB ds = true) : smallH ds := by
  unfold headsB at hb
  simp only [Bool.and_eq_true, decide_eq_true_eq] at hb
  refine ⟨by omega, fun d hd => ?_⟩
  have : szHead d ≤ (ds.map szHead).sum := le_sum_of_mem (List.mem_map.2 ⟨d, hd, rfl⟩)
  unfold szHeadS at h
  omega
end Go.Proofs.YtodennbdfloccaaGreat
