/- Residues and primes: plain Lean. -/
import Derived.Test.YtapfceghgkmgoaaHash
namespace Go.Proofs.Ytapfceghgkmgoaa
open Go.RowKit

/-! ### powers of residues -/
theorem emod_mul_left (a b m : Int) : ((a % m) * b) % m = (a * b) % m := by rw [Int.mul_emod, Int.emod_emod, ← Int.mul_emod]
theorem emod_mul_right (a b m : Int) : (a * (b % m)) % m = (a * b) % m := by rw [Int.mul_emod, Int.emod_emod, ← Int.mul_emod]
theorem emod_pow (a m : Int) (k : Nat) : (a % m) ^ k % m = a ^ k % m := by
  induction k with
  | zero => simp
  | succ k ih => rw [Int.pow_succ, Int.pow_succ, Int.mul_emod, ih, Int.emod_emod, ← Int.mul_emod]
/-- the power of a residue -/
def powM (a e m : Int) : Int := a ^ e.toNat % m
theorem powM_bd {a e m : Int} (h : 0 < m) : 0 ≤ powM a e m ∧ powM a e m < m := ⟨Int.emod_nonneg _ (by omega), Int.emod_lt_of_pos _ h⟩
theorem sq_pow (a : Int) (k : Nat) : (a * a) ^ k = a ^ (2 * k) := by
  rw [Int.pow_mul, Int.pow_succ, Int.pow_succ, Int.pow_zero, Int.one_mul]
theorem powM_even {out a : Int} {e : Nat} {m : Int} (h : e % 2 = 0) : (out * (a * a % m) ^ (e / 2)) % m = (out * a ^ e) % m := by
  rw [Int.mul_emod, emod_pow, ← Int.mul_emod, sq_pow, show 2 * (e / 2) = e by omega]
theorem powM_odd {out a : Int} {e : Nat} {m : Int} (h : e % 2 = 1) : ((out * a % m) * (a * a % m) ^ (e / 2)) % m = (out * a ^ e) % m := by
  obtain ⟨k, rfl⟩ : ∃ k, e = 2 * k + 1 := ⟨e / 2, by omega⟩
  rw [emod_mul_left, Int.mul_emod, emod_pow, ← Int.mul_emod, sq_pow, show 2 * ((2 * k + 1) / 2) = 2 * k by omega, Int.pow_succ, Int.mul_assoc, Int.mul_comm a]
/-! ### primes -/
/-- a number with no divisor but 1 and itself -/
def Prm (n : Int) : Prop := 2 ≤ n ∧ ∀ d, 2 ≤ d → d * d ≤ n → n % d ≠ 0
noncomputable def primeB (n : Int) : Bool := @decide (Prm n) (Classical.propDecidable _)
theorem primeB_iff {n : Int} : primeB n = true ↔ Prm n := @decide_eq_true_iff _ (Classical.propDecidable _)
theorem primeB_no {n : Int} (h : ¬ Prm n) : primeB n = false := @decide_eq_false _ (Classical.propDecidable _) h
theorem primeB_yes {n : Int} (h : Prm n) : primeB n = true := primeB_iff.2 h
/-- no divisor from 2 up to d -/
def noDiv (n d : Int) : Prop := ∀ d', 2 ≤ d' → d' < d → n % d' ≠ 0
theorem noDiv_two (n : Int) : noDiv n 2 := fun d h1 h2 => by omega
theorem noDiv_succ {n d : Int} (h : noDiv n d) (hd : n % d ≠ 0) : noDiv n (d + 1) := fun d' h1 h2 => by
  by_cases e : d' = d
  · rw [e]; exact hd
  · exact h d' h1 (by omega)
theorem odd_no_even {n d : Int} (h : n % 2 = 1) (hd : d % 2 = 0) : n % d ≠ 0 := fun h0 => by
  have h1 := Int.dvd_of_emod_eq_zero h0
  have h2 := Int.dvd_of_emod_eq_zero hd
  have h3 := Int.emod_eq_zero_of_dvd (Int.dvd_trans h2 h1)
  omega
theorem sq_lt {d d' : Int} (h : 0 ≤ d') (h2 : d' < d) : d' * d' < d * d := Int.mul_lt_mul' (by omega) h2 h (by omega)
theorem sq_le {d d' : Int} (h : 0 ≤ d') (h2 : d' ≤ d) : d' * d' ≤ d * d := Int.mul_le_mul h2 h2 h (by omega)
theorem Prm_of_noDiv {n d : Int} (h2 : 2 ≤ n) (h : noDiv n d) (hd : n < d * d) (h0 : 0 ≤ d) : Prm n := ⟨h2, fun d' h3 h4 => by
  by_cases e : d' < d
  · exact h d' h3 e
  · have := sq_le (d := d') (d' := d) h0 (by omega); omega⟩
theorem not_Prm_of_dvd {n d : Int} (h1 : 2 ≤ d) (h2 : d * d ≤ n) (h : n % d = 0) : ¬ Prm n := fun hp => hp.2 d h1 h2 h
end Go.Proofs.Ytapfceghgkmgoaa
