/- How many marks a merged list bears. -/
import Derived.Test.YtaobocbbaoanhaaMerge7
namespace Go.Proofs.Ytaobocbbaoanhaa

theorem cnHeadS_append (a b : List HeadD) : cnHeadS (a ++ b) = cnHeadS a + cnHeadS b := by unfold cnHeadS; rw [List.map_append, List.sum_append]
theorem cn_addH (out : List HeadD) (h : HeadD) : cnHeadS (addH out h) ≤ cnHeadS out + fcHead h := by
  unfold addH
  split
  · omega
  · rw [cnHeadS_append]; simp [cnHeadS]
theorem cn_mergeL (a : List HeadD) : ∀ (b : List HeadD), cnHeadS (mergeL a b) ≤ cnHeadS a + cnHeadS b := by
  intro b
  induction b generalizing a with
  | nil => simp [mergeL]
  | cons x b ih =>
    have h1 := ih (addH a x)
    have h2 := cn_addH a x
    have h3 : cnHeadS (x :: b) = fcHead x + cnHeadS b := by simp [cnHeadS]
    unfold mergeL at h1 ⊢
    rw [List.foldl_cons, h3]
    omega
theorem cn_mhL (a b : List HeadD) : cnHeadS (mhL a b) ≤ cnHeadS a + cnHeadS b := by
  unfold mhL
  split
  · exact cn_mergeL a b
  · simp [cnHeadS]
end Go.Proofs.Ytaobocbbaoanhaa
