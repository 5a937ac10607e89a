/- Plain laws: how much a round of gossip makes. -/
import Derived.Test.YtodennbdfloccaaGos3
namespace Go.Proofs.Ytodennbdfloccaa
open Go.RowKit

theorem sum_le_mulG {l : List Nat} {n : Nat} (h : ∀ x ∈ l, x ≤ n) : l.sum ≤ l.length * n := by
  induction l with
  | nil => simp
  | cons a l ih =>
    have h1 := h a (by simp)
    have h2 := ih fun x hx => h x (List.mem_cons_of_mem _ hx)
    rw [List.sum_cons, List.length_cons, Nat.succ_mul]
    omega
theorem okRs.any {o : List ReaderD} (h : okRs o) (i : Nat) : okH (rdrAt o i) := by
  by_cases hi : i < o.length
  · exact h.at_ hi
  · have : rdrAt o i = [] := by simp [rdrAt, List.getD, Nat.le_of_not_lt hi]
    rw [this]
    exact ⟨by simp, fun d hd => by simp at hd⟩
theorem gStep_ok {o o' : List ReaderD} {p : List Int} (h : okRs o) (hs : gStep o p = some o') : okRs o' := by
  unfold gStep at hs
  split at hs
  · rename_i hc
    cases hs
    exact okRs_set (okRs_set h (okH_merge (h.any _) (h.any _) hc.1)) (okH_merge (h.any _) (h.any _) hc.2)
  · cases hs
theorem gAll_ok {ps : List (List Int)} : ∀ {o o' : List ReaderD}, okRs o → gAll o ps = some o' → okRs o' := by
  induction ps with
  | nil => intro o o' h hs; cases hs; exact h
  | cons p ps ih =>
    intro o o' h hs
    unfold gAll at hs
    rw [List.foldl_cons] at hs
    cases h1 : gStep o p with
    | none =>
      have : (some o : Option (List ReaderD)).bind (fun x => gStep x p) = none := h1
      rw [this, gfold_none] at hs; cases hs
    | some o1 =>
      have : (some o : Option (List ReaderD)).bind (fun x => gStep x p) = some o1 := h1
      rw [this] at hs
      exact ih (gStep_ok h h1) hs
theorem gosL_ok {o : List ReaderD} {ps : List (List Int)} (h : okRs o) : okRs (gosL o ps) := by
  unfold gosL
  cases hs : gAll o ps with
  | none => exact ⟨by simp, fun r hr => by simp at hr⟩
  | some o' => exact gAll_ok h hs
theorem okH_sz {l : List HeadD} (h : okH l) : szHeadS l ≤ 20 + 20 * 1000000000 := by
  have h1 : (l.map szHead).sum ≤ (l.map szHead).length * 1000000000 := sum_le_mulG fun x hx => by
    obtain ⟨d, hd, rfl⟩ := List.mem_map.1 hx
    have := h.2 d hd; omega
  rw [List.length_map] at h1
  have h2 : l.length * 1000000000 ≤ 20 * 1000000000 := Nat.mul_le_mul_right _ h.1
  have := h.1
  unfold szHeadS; omega
theorem okRs_sz {o : List ReaderD} (h : okRs o) : szReaderS o ≤ 8 + 8 * (20 + 20 * 1000000000) := by
  have h1 : (o.map szReader).sum ≤ (o.map szReader).length * (20 + 20 * 1000000000) := sum_le_mulG fun x hx => by
    obtain ⟨r, hr, rfl⟩ := List.mem_map.1 hx
    exact okH_sz (h.2 r hr)
  rw [List.length_map] at h1
  have h2 : o.length * (20 + 20 * 1000000000) ≤ 8 * (20 + 20 * 1000000000) := Nat.mul_le_mul_right _ h.1
  have := h.1
  unfold szReaderS; omega
theorem cn_gorL {rs : List ReaderD} {ps : List (List Int)} (h : (szReaderS rs : Int) ≤ 1000000000) : cnReaderS (gorL rs ps) ≤ 1000000000000 := by
  have h1 : szReaderS (gorL rs ps) ≤ 8 + 8 * (20 + 20 * 1000000000) := by
    unfold gorL
    split
    · rename_i hg
      unfold grB at hg
      rw [Bool.and_eq_true] at hg
      exact okRs_sz (gosL_ok (rdrs_ok h hg.1))
    · exact okRs_sz ⟨by simp, fun r hr => by simp at hr⟩
  have h2 := cnReaderS_le (gorL rs ps)
  omega
end Go.Proofs.Ytodennbdfloccaa
