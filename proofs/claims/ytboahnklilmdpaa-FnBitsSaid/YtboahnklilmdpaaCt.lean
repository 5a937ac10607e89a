/- Contests: their validity and the number of coins of a ballot. -/
import Derived.Test.YtboahnklilmdpaaBa
namespace Go.Proofs.Ytboahnklilmdpaa
open Go.RowKit
set_option linter.unusedSimpArgs false
set_option linter.unusedVariables false

/-- a contest is valid -/
def ctOk (k o l m p : Int) : Bool := decide (0 ≤ l ∧ l ≤ m ∧ ((k = 1 ∨ k = 3) ∧ 1 ≤ o ∧ o ≤ 8 ∧ m ≤ o ∧ p = 0 ∨ k = 2 ∧ 1 ≤ o ∧ o ≤ 8 ∧ 1 ≤ p ∧ p ≤ 5 ∧ m ≤ o * p ∨ k = 4 ∧ o = 0 ∧ m ≤ 5 ∧ p = 0))
/-- a contest has proofs for each option -/
def ctForm (k : Int) : Bool := decide (k = 1 ∨ k = 2)
/-- the greatest exponent of an option, by the reference, by the program -/
def ctTop (k p : Int) : Int := if k = 1 then 1 else p
def ctMost (k p : Int) : Int := if k = 2 then p else 1
def ctCoins (k o l m p : Int) : Int := if ctForm k = true then o * (2 * ctTop k p + 2) + 2 * (m - l) + 1 else 2

def ctSeal (k o l m p : Int) : Int := if ctOk k o l m p = true then ctCoins k o l m p else 0
theorem ctSeal_yes {k o l m p : Int} (h : ctOk k o l m p = true) : ctSeal k o l m p = ctCoins k o l m p := by unfold ctSeal; rw [if_pos h]
theorem ctSeal_no {k o l m p : Int} (h : ctOk k o l m p = false) : ctSeal k o l m p = 0 := by unfold ctSeal; rw [if_neg (by rw [h]; simp)]

theorem ctOk_bd {k o l m p : Int} (h : ctOk k o l m p = true) : 0 ≤ o ∧ o ≤ 8 ∧ 0 ≤ p ∧ p ≤ 5 ∧ 0 ≤ l ∧ l ≤ m ∧ m ≤ 40 := by
  unfold ctOk at h
  rw [decide_eq_true_iff] at h
  obtain ⟨h1, h2, h | ⟨h3, h4, h5, h6, h7, h8⟩ | h⟩ := h
  · omega
  · have := mul_bd (a := o) (b := p) (by omega) h5 (by omega) h7
    omega
  · omega
theorem ctTop_bd {k p : Int} (h : 0 ≤ p) (h2 : p ≤ 5) : 0 ≤ ctTop k p ∧ ctTop k p ≤ 5 := by unfold ctTop; split <;> omega
theorem ctMost_eq {k p : Int} (h : ctForm k = true) : ctMost k p = ctTop k p := by
  unfold ctForm at h; rw [decide_eq_true_iff] at h; unfold ctMost ctTop
  rcases h with h | h <;> subst h <;> rfl
theorem ctCoins_form {k o l m p : Int} (h : ctForm k = true) : ctCoins k o l m p = o * (2 * ctTop k p + 2) + 2 * (m - l) + 1 := by unfold ctCoins; rw [if_pos h]
theorem ctCoins_form2 {k o l m p : Int} (h : ctForm k = true) : ctCoins k o l m p = (2 * ctMost k p + 2) * o + 2 * (m - l) + 1 := by
  rw [ctCoins_form h, ctMost_eq h, Int.mul_comm]
theorem ctCoins_none {k o l m p : Int} (h : ctForm k = false) : ctCoins k o l m p = 2 := by unfold ctCoins; rw [if_neg (by rw [h]; simp)]

end Go.Proofs.Ytboahnklilmdpaa
