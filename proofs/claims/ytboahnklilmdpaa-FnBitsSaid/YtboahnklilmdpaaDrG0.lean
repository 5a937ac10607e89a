/- Primes of the drawn groups. -/
import Derived.Test.YtboahnklilmdpaaBg
namespace Go.Proofs.Ytboahnklilmdpaa
open Go.RowKit
set_option linter.unusedSimpArgs false
set_option linter.unusedVariables false

/-- no number from 2 to D + 1 divides n -/
def noDivC (n : Nat) : Nat → Bool
  | 0 => true
  | D + 1 => n % (D + 2) != 0 && noDivC n D
theorem noDivC_at {n : Nat} : ∀ {D : Nat}, noDivC n D = true → ∀ d, d < D → n % (d + 2) ≠ 0
  | 0, _, d, hd => by omega
  | D + 1, h, d, hd => by
    simp only [noDivC, Bool.and_eq_true, bne_iff_ne] at h
    rcases (by omega : d = D ∨ d < D) with rfl | h2
    · exact h.1
    · exact noDivC_at h.2 d h2
theorem Prm_check {n D : Nat} (h2 : 2 ≤ n) (hD : n < (D + 2) * (D + 2)) (h : noDivC n D = true) : Prm (n : Int) := by
  refine ⟨by omega, fun d h3 h4 => ?_⟩
  obtain ⟨e, rfl⟩ := Int.eq_ofNat_of_zero_le (by omega : 0 ≤ d)
  have h5 : e * e ≤ n := by exact_mod_cast h4
  have h6 : e < D + 2 := by
    rcases Nat.lt_or_ge e (D + 2) with h | h
    · exact h
    · have := Nat.mul_le_mul h h; omega
  have h7 : 2 ≤ e := by omega
  have h8 := noDivC_at h (e - 2) (by omega)
  rw [show e - 2 + 2 = e by omega] at h8
  intro h9
  exact h8 (by exact_mod_cast h9)
/-- MakeGroup finds a group for this number -/
def MkOk (x : Int) : Prop := ∃ p0 : Int, ∃ j : Nat, (2 ≤ x ∧ x ≤ 1000000) ∧ Prm x ∧ Prm p0 ∧ p0 = x + 1 + j * x ∧ p0 ≤ 2000000000
theorem mkOk_tiny : ∀ x ∈ ([3, 5, 5, 7, 11, 11, 13, 23] : List Int), MkOk x := by
  have h3 : MkOk 3 := ⟨7, 1, by omega, Prm_check (n := 3) (D := 0) (by decide) (by decide) (by decide +kernel), Prm_check (n := 7) (D := 1) (by decide) (by decide) (by decide +kernel), by omega, by omega⟩
  have h5 : MkOk 5 := ⟨11, 1, by omega, Prm_check (n := 5) (D := 1) (by decide) (by decide) (by decide +kernel), Prm_check (n := 11) (D := 2) (by decide) (by decide) (by decide +kernel), by omega, by omega⟩
  have h7 : MkOk 7 := ⟨29, 3, by omega, Prm_check (n := 7) (D := 1) (by decide) (by decide) (by decide +kernel), Prm_check (n := 29) (D := 4) (by decide) (by decide) (by decide +kernel), by omega, by omega⟩
  have h11 : MkOk 11 := ⟨23, 1, by omega, Prm_check (n := 11) (D := 2) (by decide) (by decide) (by decide +kernel), Prm_check (n := 23) (D := 3) (by decide) (by decide) (by decide +kernel), by omega, by omega⟩
  have h13 : MkOk 13 := ⟨53, 3, by omega, Prm_check (n := 13) (D := 2) (by decide) (by decide) (by decide +kernel), Prm_check (n := 53) (D := 6) (by decide) (by decide) (by decide +kernel), by omega, by omega⟩
  have h23 : MkOk 23 := ⟨47, 1, by omega, Prm_check (n := 23) (D := 3) (by decide) (by decide) (by decide +kernel), Prm_check (n := 47) (D := 5) (by decide) (by decide) (by decide +kernel), by omega, by omega⟩
  intro x hx
  simp only [List.mem_cons, List.not_mem_nil, or_false] at hx
  rcases hx with rfl | rfl | rfl | rfl | rfl | rfl | rfl | rfl <;> assumption
theorem mkOk_more : ∀ x ∈ ([101, 1009, 1019, 65537, 999983] : List Int), MkOk x := by
  have h1 : MkOk 101 := ⟨607, 5, by omega, Prm_check (n := 101) (D := 9) (by decide) (by decide) (by decide +kernel), Prm_check (n := 607) (D := 24) (by decide) (by decide) (by decide +kernel), by omega, by omega⟩
  have h2 : MkOk 1009 := ⟨10091, 9, by omega, Prm_check (n := 1009) (D := 30) (by decide) (by decide) (by decide +kernel), Prm_check (n := 10091) (D := 100) (by decide) (by decide) (by decide +kernel), by omega, by omega⟩
  have h3 : MkOk 1019 := ⟨2039, 1, by omega, Prm_check (n := 1019) (D := 30) (by decide) (by decide) (by decide +kernel), Prm_check (n := 2039) (D := 44) (by decide) (by decide) (by decide +kernel), by omega, by omega⟩
  have h4 : MkOk 65537 := ⟨917519, 13, by omega, Prm_check (n := 65537) (D := 255) (by decide) (by decide) (by decide +kernel), Prm_check (n := 917519) (D := 957) (by decide) (by decide) (by decide +kernel), by omega, by omega⟩
  have h5 : MkOk 999983 := ⟨11999797, 11, by omega, Prm_check (n := 999983) (D := 998) (by decide) (by decide) (by decide +kernel), Prm_check (n := 11999797) (D := 3463) (by decide) (by decide) (by decide +kernel), by omega, by omega⟩
  intro x hx
  simp only [List.mem_cons, List.not_mem_nil, or_false] at hx
  rcases hx with rfl | rfl | rfl | rfl | rfl <;> assumption
end Go.Proofs.Ytboahnklilmdpaa
