/- Inverses by Euclid's algorithm: plain Lean. -/
import Derived.Test.YtboahnklilmdpaaGrpA
namespace Go.Proofs.Ytboahnklilmdpaa
open Go.RowKit
set_option linter.unusedSimpArgs false
set_option linter.unusedVariables false

/-- what a round of Euclid's algorithm keeps: r and n are multiples of a (by x and y), the coefficients stay below m, a common divisor divides both -/
def EuInv (a m r n x y : Int) : Prop :=
  0 ≤ n ∧ 1 ≤ r ∧ r ≤ m ∧ n ≤ m ∧ (∃ u v : Int, 0 ≤ u ∧ 0 ≤ v ∧ u * n + v * r = m ∧ u ≤ m ∧ v ≤ m ∧ ((x = u ∧ y = -v) ∨ (x = -u ∧ y = v))) ∧ m ∣ x * a - r ∧ m ∣ y * a - n ∧ (∀ d : Int, d ∣ r → d ∣ n → d ∣ m ∧ d ∣ a)
theorem EuInv.start {a m : Int} (h0 : 0 ≤ a) (h1 : a ≤ m) (hm : 1 ≤ m) : EuInv a m m a 0 1 := by
  refine ⟨h0, hm, Int.le_refl _, h1, ⟨0, 1, by omega, by omega, by omega, by omega, hm, .inr ⟨rfl, rfl⟩⟩, ⟨-1, by omega⟩, ⟨0, by omega⟩, fun d h2 h3 => ⟨h2, h3⟩⟩
theorem EuInv.bd {a m r n x y : Int} (h : EuInv a m r n x y) : -m ≤ x ∧ x ≤ m ∧ -m ≤ y ∧ y ≤ m := by
  obtain ⟨_, _, _, _, ⟨u, v, h1, h2, _, h3, h4, h5⟩, _⟩ := h
  rcases h5 with ⟨rfl, rfl⟩ | ⟨rfl, rfl⟩ <;> exact ⟨by omega, by omega, by omega, by omega⟩
theorem EuInv.quo {a m r n x y : Int} (h : EuInv a m r n x y) (hn : 0 < n) : 0 ≤ r / n ∧ r / n ≤ m ∧ 0 ≤ r / n * n ∧ r / n * n ≤ r ∧ r - r / n * n < n ∧ 0 ≤ r - r / n * n := by
  obtain ⟨h0, h1, h2, h3, _⟩ := h
  have e1 : 0 ≤ r / n := Int.ediv_nonneg (by omega) (by omega)
  have e2 : r / n * n ≤ r := Int.ediv_mul_le _ (by omega)
  have e3 : r - r / n * n = r % n := by have := Int.emod_def r n; rw [this, Int.mul_comm]
  have e4 := Int.emod_lt_of_pos r hn
  have e5 : r / n ≤ r := Int.ediv_le_self _ (by omega)
  exact ⟨e1, by omega, Int.mul_nonneg e1 (by omega), e2, by omega, by omega⟩
theorem EuInv.step {a m r n x y : Int} (h : EuInv a m r n x y) (hn : 0 < n) : EuInv a m n (r - r / n * n) y (x - r / n * y) ∧ -m ≤ r / n * y ∧ r / n * y ≤ m := by
  obtain ⟨q0, q1, q2, q3, q4, q5⟩ := h.quo hn
  obtain ⟨h0, h1, h2, h3, ⟨u, v, h4, h5, h6, h7, h8, h9⟩, h10, h11, h12⟩ := h
  obtain ⟨q, hq⟩ : ∃ q, r / n = q := ⟨_, rfl⟩
  rw [hq] at q0 q1 q2 q3 q4 q5 ⊢
  have hqv : 0 ≤ q * v := Int.mul_nonneg q0 h5
  have e1 : (u + q * v) * n + v * (r - q * n) = u * n + v * r - (v * (q * n) - q * v * n) := by
    rw [Int.add_mul, Int.mul_sub]; omega
  have e2 : v * (q * n) = q * v * n := by ac_rfl
  have e3 : v * n + (u + q * v) * 0 = v * n := by omega
  -- the coefficients: v and u + q v
  have e4 : v * (r - q * n) + (u + q * v) * n = m := by rw [Int.add_comm, e1, e2]; omega
  have e5 : u + q * v ≤ m := by
    have s1 : 0 ≤ v * (r - q * n) := Int.mul_nonneg h5 q5
    have s2 : (u + q * v) * 1 ≤ (u + q * v) * n := Int.mul_le_mul_of_nonneg_left (by omega) (by omega)
    omega
  have e6 : -m ≤ q * y ∧ q * y ≤ m := by
    rcases h9 with ⟨_, rfl⟩ | ⟨_, rfl⟩
    · rw [Int.mul_neg]; omega
    · omega
  refine ⟨⟨q5, by omega, h3, by omega, ⟨v, u + q * v, h5, by omega, e4, h8, e5, ?_⟩, h11, ?_, fun d d1 d2 => ?_⟩, e6.1, e6.2⟩
  · rcases h9 with ⟨rfl, rfl⟩ | ⟨rfl, rfl⟩
    · exact .inr ⟨rfl, by rw [Int.mul_neg]; omega⟩
    · exact .inl ⟨rfl, by omega⟩
  · obtain ⟨c1, k1⟩ := h10
    obtain ⟨c2, k2⟩ := h11
    refine ⟨c1 - q * c2, ?_⟩
    have s1 : (x - q * y) * a - (r - q * n) = (x * a - r) - q * (y * a - n) := by
      rw [Int.sub_mul, Int.mul_sub, Int.mul_assoc]; omega
    rw [s1, k1, k2, Int.mul_sub]
    congr 1
    ac_rfl
  · refine h12 d ?_ d1
    obtain ⟨c1, k1⟩ := d1
    obtain ⟨c2, k2⟩ := d2
    refine ⟨c2 + q * c1, ?_⟩
    rw [Int.mul_add]
    have s1 : d * (q * c1) = q * n := by rw [k1]; ac_rfl
    omega
theorem Prm.gcd_one {a m r : Int} (hm : Prm m) (h0 : 0 < a) (h1 : a < m) (hr : 1 ≤ r) (h2 : r ∣ m) (h3 : r ∣ a) : r = 1 := by
  by_cases h : r = 1
  · exact h
  · exfalso
    have hra : r ≤ a := Int.le_of_dvd h0 h3
    obtain ⟨c, hc⟩ := h2
    have hc1 : 1 < c := by
      have s0 : 0 < c := by
        apply Int.not_le.1
        intro hle
        have s2 : r * c ≤ r * 0 := Int.mul_le_mul_of_nonneg_left hle (by omega)
        have := hm.1
        omega
      have s1 : c ≠ 1 := fun e => by rw [e] at hc; omega
      omega
    by_cases hle : r * r ≤ m
    · exact hm.2 r (by omega) hle (Int.emod_eq_zero_of_dvd ⟨c, hc⟩)
    · have hcr : c * c ≤ m := by
        have s1 : c ≤ r := by
          apply Int.not_lt.1
          intro hlt
          have : r * r ≤ r * c := Int.mul_le_mul_of_nonneg_left (by omega) (by omega)
          omega
        rw [hc]
        exact Int.mul_le_mul_of_nonneg_right s1 (by omega)
      exact hm.2 c (by omega) hcr (Int.emod_eq_zero_of_dvd ⟨r, by rw [hc, Int.mul_comm]⟩)
/-- the inverse of an exponent, found by Euclid's algorithm -/
theorem EuInv.done {a m r x y : Int} (h : EuInv a m r 0 x y) (hm : Prm m) (h0 : 0 < a) (h1 : a < m) : r = 1 ∧ a * (x % m) % m = 1 := by
  obtain ⟨_, h2, _, _, _, h3, _, h4⟩ := h
  obtain ⟨d1, d2⟩ := h4 r (Int.dvd_refl _) (Int.dvd_zero _)
  have hr := hm.gcd_one h0 h1 h2 d1 d2
  subst hr
  refine ⟨rfl, ?_⟩
  obtain ⟨c, hc⟩ := h3
  have hm2 := hm.1
  rw [emod_mul_right, Int.mul_comm, show x * a = 1 + m * c by omega, Int.add_mul_emod_self_left]
  exact Int.emod_eq_of_lt (by omega) (by omega)
theorem EuInv.ends {a m : Int} (hm : Prm m) (h0 : 0 < a) (h1 : a < m) : ∀ (k : Nat) (r n x y : Int), n.toNat ≤ k → EuInv a m r n x y → ∃ z, a * z % m = 1
  | 0, r, n, x, y, hk, h => by
    have h2 := h.1
    have e : n = 0 := by omega
    rw [e] at h
    exact ⟨_, (h.done hm h0 h1).2⟩
  | k + 1, r, n, x, y, hk, h => by
    have h2 := h.1
    by_cases e : n = 0
    · rw [e] at h
      exact ⟨_, (h.done hm h0 h1).2⟩
    · have h3 := h.quo (by omega)
      have h4 := (h.step (by omega)).1
      exact EuInv.ends hm h0 h1 k _ _ _ _ (by omega) h4
theorem inverse_is {a m : Int} (hm : Prm m) (h0 : 0 < a) (h1 : a < m) : ∃ z, a * z % m = 1 :=
  EuInv.ends hm h0 h1 a.toNat m a 0 1 (Nat.le_refl _) (EuInv.start (by omega) (by omega) (by have := hm.1; omega))
theorem EuInv.start2 {a m : Int} (h0 : 0 < a) (h1 : a ≤ m) : EuInv a m a m 1 0 := by
  refine ⟨by omega, by omega, h1, Int.le_refl _, ⟨1, 0, by omega, by omega, by omega, by omega, by omega, .inl ⟨rfl, rfl⟩⟩, ⟨0, by omega⟩, ⟨-1, by omega⟩, fun d h2 h3 => ⟨h3, h2⟩⟩
theorem inverse_bd {a m : Int} (hm : Prm m) (h0 : 0 < a) (h1 : a < m) : ∃ z, (0 ≤ z ∧ z < m) ∧ a * z % m = 1 := by
  obtain ⟨z, hz⟩ := inverse_is hm h0 h1
  have := hm.1
  exact ⟨z % m, ⟨Int.emod_nonneg _ (by omega), Int.emod_lt_of_pos _ (by omega)⟩, by rw [emod_mul_right]; exact hz⟩
open Classical in
/-- the inverse of an exponent -/
noncomputable def invQ (a m : Int) : Int := if h : ∃ z, (0 ≤ z ∧ z < m) ∧ a * z % m = 1 then h.choose else 0
theorem invQ_is {a m : Int} (hm : Prm m) (h0 : 0 < a) (h1 : a < m) : (0 ≤ invQ a m ∧ invQ a m < m) ∧ a * invQ a m % m = 1 := by
  have h := inverse_bd hm h0 h1
  unfold invQ
  rw [dif_pos h]
  exact h.choose_spec
theorem invQ_one {a m y : Int} (hm : Prm m) (h0 : 0 < a) (h1 : a < m) (hy : 0 ≤ y ∧ y < m) (h : a * y % m = 1) : y = invQ a m := by
  obtain ⟨hz, hz2⟩ := invQ_is hm h0 h1
  obtain ⟨z, e⟩ : ∃ z, invQ a m = z := ⟨_, rfl⟩
  rw [e] at hz hz2 ⊢
  have e1 : (y * (a * z)) % m = y := by rw [← emod_mul_right, hz2, Int.mul_one]; exact Int.emod_eq_of_lt hy.1 hy.2
  have e2 : (y * (a * z)) % m = z := by
    rw [show y * (a * z) = (a * y) * z by ac_rfl, ← emod_mul_left, h, Int.one_mul]; exact Int.emod_eq_of_lt hz.1 hz.2
  rw [← e1, e2]
theorem EuInv.inv {a m r x y : Int} (h : EuInv a m r 0 x y) (hm : Prm m) (h0 : 0 < a) (h1 : a < m) : r = 1 ∧ x % m = invQ a m := by
  obtain ⟨e1, e2⟩ := h.done hm h0 h1
  exact ⟨e1, invQ_one hm h0 h1 ⟨Int.emod_nonneg _ (by omega), Int.emod_lt_of_pos _ (by omega)⟩ e2⟩
end Go.Proofs.Ytboahnklilmdpaa
