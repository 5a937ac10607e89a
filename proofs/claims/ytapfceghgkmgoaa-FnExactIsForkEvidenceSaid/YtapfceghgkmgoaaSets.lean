/- Walks: sorted lists as sets (spec.l1Has, spec.l1Put). -/
import Derived.Test.YtapfceghgkmgoaaHash
namespace Go.Proofs.Ytapfceghgkmgoaa
open Go.RowKit
set_option linter.unusedSimpArgs false
set_option linter.unusedVariables false

/-- where a number is put -/
def posF (l : List Int) (n : Int) : Nat := (l.takeWhile fun x => decide (x < n)).length
def putL (l : List Int) (n : Int) : List Int := if posF l n < l.length ∧ nth l (posF l n) = n then l else (l.take (posF l n) ++ [n]) ++ l.drop (posF l n)
theorem posF_le (l : List Int) (n : Int) : posF l n ≤ l.length := by unfold posF; exact (List.takeWhile_prefix _).length_le
theorem posF_lt {l : List Int} {n : Int} : ∀ {i : Nat}, i < posF l n → nth l i < n := by
  induction l with
  | nil => intro i h; simp [posF] at h
  | cons a l ih =>
    intro i h
    unfold posF at h ih
    rw [List.takeWhile_cons] at h
    by_cases ha : a < n
    · rw [if_pos (by simpa using ha)] at h
      cases i with
      | zero => exact ha
      | succ i => exact ih (by simpa using h)
    · rw [if_neg (by simpa using ha)] at h; simp at h
theorem posF_ge {l : List Int} {n : Int} (h : posF l n < l.length) : ¬ nth l (posF l n) < n := by
  induction l with
  | nil => simp at h
  | cons a l ih =>
    unfold posF at h ih ⊢
    rw [List.takeWhile_cons] at h ⊢
    by_cases ha : a < n
    · rw [if_pos (by simpa using ha)] at h ⊢
      exact ih (by simpa using h)
    · rw [if_neg (by simpa using ha)]; exact ha
theorem posF_eq {l : List Int} {n : Int} {k : Nat} (h1 : ∀ i, i < k → nth l i < n) (h2 : k ≤ l.length) (h3 : k < l.length → ¬ nth l k < n) : posF l n = k := by
  rcases Nat.lt_trichotomy (posF l n) k with h | h | h
  · exact absurd (h1 _ h) (posF_ge (by omega))
  · exact h
  · exact absurd (posF_lt h) (h3 (by have := posF_le l n; omega))
end Go.Proofs.Ytapfceghgkmgoaa
