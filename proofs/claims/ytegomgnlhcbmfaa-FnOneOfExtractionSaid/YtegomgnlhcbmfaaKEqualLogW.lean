/- The algebra of groups: powers and products of elements: plain Lean. -/
import Derived.Test.YtegomgnlhcbmfaaPow2W
import Derived.Test.YtegomgnlhcbmfaaBaW
import Derived.Test.YtegomgnlhcbmfaaBmW
import Derived.Test.YtegomgnlhcbmfaaBgW
import Derived.Test.YtegomgnlhcbmfaaDrG3W
import Derived.Test.YtegomgnlhcbmfaaDrG0W
namespace Go.Proofs.Ytegomgnlhcbmfaa
open Go.RowKit
set_option linter.unusedSimpArgs false
set_option linter.unusedVariables false

/-- the product of two residues -/
theorem mulT {gr : GroupD} (a b : Int) : mulL gr [a, b] = a * b % gr.p := by
  unfold mulL
  simp only [List.foldl_cons, List.foldl_nil, Int.one_mul]
  rw [emod_mul_left]
theorem elT {gr : GroupD} (hg : OkG gr) {x : Int} (h0 : 0 ≤ x) (h1 : x < gr.p) (h : powM x gr.q gr.p = 1) : elB gr x = true := by
  have hp := hg.p1
  have hq := hg.q1
  have h2 : x ≠ 0 := fun h3 => by
    rw [h3] at h
    unfold powM at h
    obtain ⟨n, hn⟩ : ∃ n, gr.q.toNat = n + 1 := ⟨gr.q.toNat - 1, by omega⟩
    rw [hn, Int.pow_succ, Int.mul_zero] at h
    simp at h
  unfold elB
  rw [h, Bool.and_eq_true, decide_eq_true_iff]
  exact ⟨by omega, rfl⟩
theorem elT_mod {gr : GroupD} (hg : OkG gr) {x : Int} (h : elB gr x = true) : x % gr.p = x := by
  obtain ⟨h1, h2⟩ := elB_bd h
  exact Int.emod_eq_of_lt (by omega) (by omega)
theorem elT_mul {gr : GroupD} (hg : OkG gr) {a b : Int} (ha : elB gr a = true) (hb : elB gr b = true) : elB gr (a * b % gr.p) = true := by
  have hp := hg.p1
  refine elT hg (Int.emod_nonneg _ (by omega)) (Int.emod_lt_of_pos _ (by omega)) ?_
  have h1 := elB_pow ha
  have h2 := elB_pow hb
  unfold powM at h1 h2 ⊢
  rw [emod_pow, Int.mul_pow, Int.mul_emod, h1, h2]
  exact Int.emod_eq_of_lt (by omega) (by omega)
theorem pow_one_mod {a p : Int} (hp : 1 < p) (h : a % p = 1) (k : Nat) : a ^ k % p = 1 := by
  rw [← emod_pow, h, Int.one_pow]
  exact Int.emod_eq_of_lt (by omega) hp
theorem elT_pow {gr : GroupD} (hg : OkG gr) {x : Int} (h : elB gr x = true) (e : Int) : elB gr (powE gr x e) = true := by
  have hp := hg.p1
  obtain ⟨h1, h2⟩ := powE_bd hg x e
  refine elT hg h1 h2 ?_
  have h3 := elB_pow h
  unfold powM at h3
  unfold powE powM
  rw [emod_pow, ← Int.pow_mul, Nat.mul_comm, Int.pow_mul]
  exact pow_one_mod (by omega) h3 _
theorem powE_emod (gr : GroupD) (x e : Int) : powE gr x (e % gr.q) = powE gr x e := by
  unfold powE; rw [Int.emod_emod]
/-- a power of an element goes by the residue of the exponent -/
theorem powE_nat {gr : GroupD} (hg : OkG gr) {x : Int} (h : elB gr x = true) (k : Nat) : powE gr x (k : Int) = x ^ k % gr.p := by
  have hq := hg.q1
  have h1 := elB_pow h
  obtain ⟨d, hd⟩ : ∃ d : Nat, gr.q = d := ⟨gr.q.toNat, by omega⟩
  have h2 : yE gr x d = 1 := by rw [hd] at h1; exact h1
  have h3 := yE_mod gr x (d := d) (by omega) h2 k
  have e1 : ((k : Int) % gr.q) = ((k % d : Nat) : Int) := by rw [hd]; omega
  show powM x ((k : Int) % gr.q) gr.p = x ^ k % gr.p
  rw [e1]
  exact h3.symm
theorem powE_add {gr : GroupD} (hg : OkG gr) {x : Int} (h : elB gr x = true) (a b : Int) : powE gr x (a + b) = powE gr x a * powE gr x b % gr.p := by
  have hq := hg.q1
  have e1 : 0 ≤ a % gr.q := Int.emod_nonneg _ (by omega)
  have e2 : 0 ≤ b % gr.q := Int.emod_nonneg _ (by omega)
  obtain ⟨i, hi⟩ : ∃ i : Nat, a % gr.q = i := ⟨(a % gr.q).toNat, by omega⟩
  obtain ⟨j, hj⟩ : ∃ j : Nat, b % gr.q = j := ⟨(b % gr.q).toNat, by omega⟩
  rw [← powE_emod gr x (a + b), Int.add_emod, hi, hj, powE_emod, ← powE_emod gr x a, ← powE_emod gr x b, hi, hj, powE_nat hg h, powE_nat hg h, show ((i : Int) + (j : Int)) = ((i + j : Nat) : Int) by omega, powE_nat hg h, Int.pow_add, Int.mul_emod]
theorem powE_pow {gr : GroupD} (hg : OkG gr) {x : Int} (h : elB gr x = true) (a b : Int) : powE gr (powE gr x a) b = powE gr x (a * b) := by
  have hq := hg.q1
  have e1 : 0 ≤ a % gr.q := Int.emod_nonneg _ (by omega)
  have e2 : 0 ≤ b % gr.q := Int.emod_nonneg _ (by omega)
  obtain ⟨i, hi⟩ : ∃ i : Nat, a % gr.q = i := ⟨(a % gr.q).toNat, by omega⟩
  obtain ⟨j, hj⟩ : ∃ j : Nat, b % gr.q = j := ⟨(b % gr.q).toNat, by omega⟩
  rw [← powE_emod gr x (a * b), Int.mul_emod, hi, hj, powE_emod, ← powE_emod gr (powE gr x a) b, hj, powE_nat hg (elT_pow hg h a), ← powE_emod gr x a, hi, powE_nat hg h, emod_pow, ← Int.pow_mul, show ((i : Int) * (j : Int)) = ((i * j : Nat) : Int) by rw [Int.natCast_mul], powE_nat hg h]
theorem powE_zero {gr : GroupD} (hg : OkG gr) {x : Int} : powE gr x 0 = 1 := by
  have := hg.p1
  unfold powE powM
  rw [Int.zero_emod, show (0 : Int).toNat = 0 from rfl, Int.pow_zero]
  exact Int.emod_eq_of_lt (by omega) (by omega)
theorem powE_single {gr : GroupD} (hg : OkG gr) {x : Int} (h : elB gr x = true) : powE gr x 1 = x := by
  have h1 := powE_nat hg h 1
  rw [Int.pow_succ, Int.pow_zero, Int.one_mul, elT_mod hg h] at h1
  exact h1
theorem powE_neg {gr : GroupD} (hg : OkG gr) {x : Int} (h : elB gr x = true) (a : Int) : powE gr x a * powE gr x (-a) % gr.p = 1 := by
  rw [← powE_add hg h, show a + -a = 0 by omega, powE_zero hg]
/-- what is multiplied by a power and its opposite stays -/
theorem mul_cancel {gr : GroupD} (hg : OkG gr) {y x : Int} (hy : elB gr y = true) (hx : elB gr x = true) (a : Int) : y * powE gr x a % gr.p * powE gr x (-a) % gr.p = y := by
  rw [emod_mul_left, Int.mul_assoc, ← emod_mul_right, powE_neg hg hx, Int.mul_one, elT_mod hg hy]
theorem mul_cancel' {gr : GroupD} (hg : OkG gr) {y x : Int} (hy : elB gr y = true) (hx : elB gr x = true) (a : Int) : y * powE gr x (-a) % gr.p * powE gr x a % gr.p = y := by
  have h := mul_cancel hg hy hx (-a)
  rwa [Int.neg_neg] at h
end Go.Proofs.Ytegomgnlhcbmfaa
namespace Go.Proofs.Ytegomgnlhcbmfaa
open Go.RowKit
set_option linter.unusedSimpArgs false
set_option linter.unusedVariables false

/-- what a round of Euclid's algorithm keeps: r and n are multiples of a (by x and y), the coefficients stay below m, a common divisor divides both -/
def EuInv (a m r n x y : Int) : Prop :=
  0 ≤ n ∧ 1 ≤ r ∧ r ≤ m ∧ n ≤ m ∧ (∃ u v : Int, 0 ≤ u ∧ 0 ≤ v ∧ u * n + v * r = m ∧ u ≤ m ∧ v ≤ m ∧ ((x = u ∧ y = -v) ∨ (x = -u ∧ y = v))) ∧ m ∣ x * a - r ∧ m ∣ y * a - n ∧ (∀ d : Int, d ∣ r → d ∣ n → d ∣ m ∧ d ∣ a)
theorem EuInv.start {a m : Int} (h0 : 0 ≤ a) (h1 : a ≤ m) (hm : 1 ≤ m) : EuInv a m m a 0 1 := by
  refine ⟨h0, hm, Int.le_refl _, h1, ⟨0, 1, by omega, by omega, by omega, by omega, hm, .inr ⟨rfl, rfl⟩⟩, ⟨-1, by omega⟩, ⟨0, by omega⟩, fun d h2 h3 => ⟨h2, h3⟩⟩
theorem EuInv.bd {a m r n x y : Int} (h : EuInv a m r n x y) : -m ≤ x ∧ x ≤ m ∧ -m ≤ y ∧ y ≤ m := by
  obtain ⟨_, _, _, _, ⟨u, v, h1, h2, _, h3, h4, h5⟩, _⟩ := h
  rcases h5 with ⟨rfl, rfl⟩ | ⟨rfl, rfl⟩ <;> exact ⟨by omega, by omega, by omega, by omega⟩
theorem EuInv.quo {a m r n x y : Int} (h : EuInv a m r n x y) (hn : 0 < n) : 0 ≤ r / n ∧ r / n ≤ m ∧ 0 ≤ r / n * n ∧ r / n * n ≤ r ∧ r - r / n * n < n ∧ 0 ≤ r - r / n * n := by
  obtain ⟨h0, h1, h2, h3, _⟩ := h
  have e1 : 0 ≤ r / n := Int.ediv_nonneg (by omega) (by omega)
  have e2 : r / n * n ≤ r := Int.ediv_mul_le _ (by omega)
  have e3 : r - r / n * n = r % n := by have := Int.emod_def r n; rw [this, Int.mul_comm]
  have e4 := Int.emod_lt_of_pos r hn
  have e5 : r / n ≤ r := Int.ediv_le_self _ (by omega)
  exact ⟨e1, by omega, Int.mul_nonneg e1 (by omega), e2, by omega, by omega⟩
theorem EuInv.step {a m r n x y : Int} (h : EuInv a m r n x y) (hn : 0 < n) : EuInv a m n (r - r / n * n) y (x - r / n * y) ∧ -m ≤ r / n * y ∧ r / n * y ≤ m := by
  obtain ⟨q0, q1, q2, q3, q4, q5⟩ := h.quo hn
  obtain ⟨h0, h1, h2, h3, ⟨u, v, h4, h5, h6, h7, h8, h9⟩, h10, h11, h12⟩ := h
  obtain ⟨q, hq⟩ : ∃ q, r / n = q := ⟨_, rfl⟩
  rw [hq] at q0 q1 q2 q3 q4 q5 ⊢
  have hqv : 0 ≤ q * v := Int.mul_nonneg q0 h5
  have e1 : (u + q * v) * n + v * (r - q * n) = u * n + v * r - (v * (q * n) - q * v * n) := by
    rw [Int.add_mul, Int.mul_sub]; omega
  have e2 : v * (q * n) = q * v * n := by ac_rfl
  have e3 : v * n + (u + q * v) * 0 = v * n := by omega
  -- the coefficients: v and u + q v
  have e4 : v * (r - q * n) + (u + q * v) * n = m := by rw [Int.add_comm, e1, e2]; omega
  have e5 : u + q * v ≤ m := by
    have s1 : 0 ≤ v * (r - q * n) := Int.mul_nonneg h5 q5
    have s2 : (u + q * v) * 1 ≤ (u + q * v) * n := Int.mul_le_mul_of_nonneg_left (by omega) (by omega)
    omega
  have e6 : -m ≤ q * y ∧ q * y ≤ m := by
    rcases h9 with ⟨_, rfl⟩ | ⟨_, rfl⟩
    · rw [Int.mul_neg]; omega
    · omega
  refine ⟨⟨q5, by omega, h3, by omega, ⟨v, u + q * v, h5, by omega, e4, h8, e5, ?_⟩, h11, ?_, fun d d1 d2 => ?_⟩, e6.1, e6.2⟩
  · rcases h9 with ⟨rfl, rfl⟩ | ⟨rfl, rfl⟩
    · exact .inr ⟨rfl, by rw [Int.mul_neg]; omega⟩
    · exact .inl ⟨rfl, by omega⟩
  · obtain ⟨c1, k1⟩ := h10
    obtain ⟨c2, k2⟩ := h11
    refine ⟨c1 - q * c2, ?_⟩
    have s1 : (x - q * y) * a - (r - q * n) = (x * a - r) - q * (y * a - n) := by
      rw [Int.sub_mul, Int.mul_sub, Int.mul_assoc]; omega
    rw [s1, k1, k2, Int.mul_sub]
    congr 1
    ac_rfl
  · refine h12 d ?_ d1
    obtain ⟨c1, k1⟩ := d1
    obtain ⟨c2, k2⟩ := d2
    refine ⟨c2 + q * c1, ?_⟩
    rw [Int.mul_add]
    have s1 : d * (q * c1) = q * n := by rw [k1]; ac_rfl
    omega
theorem Prm.gcd_one {a m r : Int} (hm : Prm m) (h0 : 0 < a) (h1 : a < m) (hr : 1 ≤ r) (h2 : r ∣ m) (h3 : r ∣ a) : r = 1 := by
  by_cases h : r = 1
  · exact h
  · exfalso
    have hra : r ≤ a := Int.le_of_dvd h0 h3
    obtain ⟨c, hc⟩ := h2
    have hc1 : 1 < c := by
      have s0 : 0 < c := by
        apply Int.not_le.1
        intro hle
        have s2 : r * c ≤ r * 0 := Int.mul_le_mul_of_nonneg_left hle (by omega)
        have := hm.1
        omega
      have s1 : c ≠ 1 := fun e => by rw [e] at hc; omega
      omega
    by_cases hle : r * r ≤ m
    · exact hm.2 r (by omega) hle (Int.emod_eq_zero_of_dvd ⟨c, hc⟩)
    · have hcr : c * c ≤ m := by
        have s1 : c ≤ r := by
          apply Int.not_lt.1
          intro hlt
          have : r * r ≤ r * c := Int.mul_le_mul_of_nonneg_left (by omega) (by omega)
          omega
        rw [hc]
        exact Int.mul_le_mul_of_nonneg_right s1 (by omega)
      exact hm.2 c (by omega) hcr (Int.emod_eq_zero_of_dvd ⟨r, by rw [hc, Int.mul_comm]⟩)
/-- the inverse of an exponent, found by Euclid's algorithm -/
theorem EuInv.done {a m r x y : Int} (h : EuInv a m r 0 x y) (hm : Prm m) (h0 : 0 < a) (h1 : a < m) : r = 1 ∧ a * (x % m) % m = 1 := by
  obtain ⟨_, h2, _, _, _, h3, _, h4⟩ := h
  obtain ⟨d1, d2⟩ := h4 r (Int.dvd_refl _) (Int.dvd_zero _)
  have hr := hm.gcd_one h0 h1 h2 d1 d2
  subst hr
  refine ⟨rfl, ?_⟩
  obtain ⟨c, hc⟩ := h3
  have hm2 := hm.1
  rw [emod_mul_right, Int.mul_comm, show x * a = 1 + m * c by omega, Int.add_mul_emod_self_left]
  exact Int.emod_eq_of_lt (by omega) (by omega)
theorem EuInv.ends {a m : Int} (hm : Prm m) (h0 : 0 < a) (h1 : a < m) : ∀ (k : Nat) (r n x y : Int), n.toNat ≤ k → EuInv a m r n x y → ∃ z, a * z % m = 1
  | 0, r, n, x, y, hk, h => by
    have h2 := h.1
    have e : n = 0 := by omega
    rw [e] at h
    exact ⟨_, (h.done hm h0 h1).2⟩
  | k + 1, r, n, x, y, hk, h => by
    have h2 := h.1
    by_cases e : n = 0
    · rw [e] at h
      exact ⟨_, (h.done hm h0 h1).2⟩
    · have h3 := h.quo (by omega)
      have h4 := (h.step (by omega)).1
      exact EuInv.ends hm h0 h1 k _ _ _ _ (by omega) h4
theorem inverse_is {a m : Int} (hm : Prm m) (h0 : 0 < a) (h1 : a < m) : ∃ z, a * z % m = 1 :=
  EuInv.ends hm h0 h1 a.toNat m a 0 1 (Nat.le_refl _) (EuInv.start (by omega) (by omega) (by have := hm.1; omega))
theorem EuInv.start2 {a m : Int} (h0 : 0 < a) (h1 : a ≤ m) : EuInv a m a m 1 0 := by
  refine ⟨by omega, by omega, h1, Int.le_refl _, ⟨1, 0, by omega, by omega, by omega, by omega, by omega, .inl ⟨rfl, rfl⟩⟩, ⟨0, by omega⟩, ⟨-1, by omega⟩, fun d h2 h3 => ⟨h3, h2⟩⟩
theorem inverse_bd {a m : Int} (hm : Prm m) (h0 : 0 < a) (h1 : a < m) : ∃ z, (0 ≤ z ∧ z < m) ∧ a * z % m = 1 := by
  obtain ⟨z, hz⟩ := inverse_is hm h0 h1
  have := hm.1
  exact ⟨z % m, ⟨Int.emod_nonneg _ (by omega), Int.emod_lt_of_pos _ (by omega)⟩, by rw [emod_mul_right]; exact hz⟩
open Classical in
/-- the inverse of an exponent -/
noncomputable def invQ (a m : Int) : Int := if h : ∃ z, (0 ≤ z ∧ z < m) ∧ a * z % m = 1 then h.choose else 0
theorem invQ_is {a m : Int} (hm : Prm m) (h0 : 0 < a) (h1 : a < m) : (0 ≤ invQ a m ∧ invQ a m < m) ∧ a * invQ a m % m = 1 := by
  have h := inverse_bd hm h0 h1
  unfold invQ
  rw [dif_pos h]
  exact h.choose_spec
theorem invQ_one {a m y : Int} (hm : Prm m) (h0 : 0 < a) (h1 : a < m) (hy : 0 ≤ y ∧ y < m) (h : a * y % m = 1) : y = invQ a m := by
  obtain ⟨hz, hz2⟩ := invQ_is hm h0 h1
  obtain ⟨z, e⟩ : ∃ z, invQ a m = z := ⟨_, rfl⟩
  rw [e] at hz hz2 ⊢
  have e1 : (y * (a * z)) % m = y := by rw [← emod_mul_right, hz2, Int.mul_one]; exact Int.emod_eq_of_lt hy.1 hy.2
  have e2 : (y * (a * z)) % m = z := by
    rw [show y * (a * z) = (a * y) * z by ac_rfl, ← emod_mul_left, h, Int.one_mul]; exact Int.emod_eq_of_lt hz.1 hz.2
  rw [← e1, e2]
theorem EuInv.inv {a m r x y : Int} (h : EuInv a m r 0 x y) (hm : Prm m) (h0 : 0 < a) (h1 : a < m) : r = 1 ∧ x % m = invQ a m := by
  obtain ⟨e1, e2⟩ := h.done hm h0 h1
  exact ⟨e1, invQ_one hm h0 h1 ⟨Int.emod_nonneg _ (by omega), Int.emod_lt_of_pos _ (by omega)⟩ e2⟩
end Go.Proofs.Ytegomgnlhcbmfaa
/- The struct Proof as a kind (printed by genkind.py): its data, its row, the walks of the laws' helpers. -/

namespace Go.Proofs.Ytegomgnlhcbmfaa
open Go.RowKit
set_option linter.unusedSimpArgs false
set_option linter.unusedVariables false

structure ProofD where
  c : List Int
  h : List Int
  r : List Int
deriving DecidableEq
end Go.Proofs.Ytegomgnlhcbmfaa
/- The struct Head as a kind (printed by genkind.py): its data, its row, the walks of the laws' helpers. -/


namespace Go.Proofs.Ytegomgnlhcbmfaa
open Go.RowKit
set_option linter.unusedSimpArgs false
set_option linter.unusedVariables false

end Go.Proofs.Ytegomgnlhcbmfaa
/- The struct Entry as a kind (printed by genkind.py): its data, its row, the walks of the laws' helpers. -/


namespace Go.Proofs.Ytegomgnlhcbmfaa
open Go.RowKit
set_option linter.unusedSimpArgs false
set_option linter.unusedVariables false

end Go.Proofs.Ytegomgnlhcbmfaa
namespace Go.Proofs.Ytegomgnlhcbmfaa
open Go.RowKit
set_option linter.unusedSimpArgs false
set_option linter.unusedVariables false

theorem expV {gr : GroupD} (hg : OkG gr) (s : ByteArray) (l : List Int) : expB gr (chV gr s l) = true := by
  have := chV_bd hg s l
  unfold expB
  rw [decide_eq_true_iff]
  exact ⟨this.1, by omega⟩
end Go.Proofs.Ytegomgnlhcbmfaa
namespace Go.Proofs.Ytegomgnlhcbmfaa
open Go.RowKit
set_option linter.unusedSimpArgs false
set_option linter.unusedVariables false

/-- a proof in memory -/
def PfR (w : World) (v : Value) (d : ProofD) : Prop := ∃ a b c, v = .agg #[a, b, c] ∧ Ints w a d.c ∧ Ints w b d.h ∧ Ints w c d.r
theorem PfR.below {w w' : World} {v : Value} {d : ProofD} (h : PfR w v d) (hb : Below w.heap.size w w') : PfR w' v d := by
  obtain ⟨a, b, c, e, h1, h2, h3⟩ := h; exact ⟨a, b, c, e, h1.below hb, h2.below hb, h3.below hb⟩
theorem PfR.mk {w : World} {a b c : Value} {d : ProofD} (h1 : Ints w a d.c) (h2 : Ints w b d.h) (h3 : Ints w c d.r) : PfR w (.agg #[a, b, c]) d := ⟨a, b, c, rfl, h1, h2, h3⟩
/-- a proof in new memory and a Bool are returned -/
def RetP (e : Ending) (w : World) (B : Nat) (b : Bool) (d : ProofD) : Prop := ∃ x y z, e = .returned (.tuple #[.agg #[x, y, z], .bool b]) ∧ OwnI w B x d.c ∧ OwnI w B y d.h ∧ OwnI w B z d.r
theorem RetP.mk {w : World} {B : Nat} {x y z : Value} {b : Bool} {d : ProofD} (h1 : OwnI w B x d.c) (h2 : OwnI w B y d.h) (h3 : OwnI w B z d.r) : RetP (.returned (.tuple #[.agg #[x, y, z], .bool b])) w B b d := ⟨x, y, z, rfl, h1, h2, h3⟩
theorem OwnI.oth {w : World} {B b : Nat} {v : Value} {l : List Int} (h : OwnI w B v l) (hb : b < B) (j : Nat) (x : Value) : OwnI (w.setCell ⟨b, j, none⟩ x) B v l :=
  h.kept (grownBy_setCell _ b j x) (.inr fun e => by have := (h.lt _ e).1; omega)
end Go.Proofs.Ytegomgnlhcbmfaa
namespace Go.Proofs.Ytegomgnlhcbmfaa
open Go.RowKit
set_option linter.unusedSimpArgs false
set_option linter.unusedVariables false

/-- what holds in every world that agrees in the blocks from B on below T -/
def SinceT (B T : Nat) (w : World) (P : World → Prop) : Prop := T ≤ w.heap.size ∧ ∀ w', w.heap.size ≤ w'.heap.size → (∀ k, B ≤ k → k < T → w'.heap[k]? = w.heap[k]?) → P w'
theorem SinceT.of {B T : Nat} {w W : World} {P : World → Prop} (h : Since B w P) (hb : Below w.heap.size w W) (hT : w.heap.size ≤ T ∧ T ≤ W.heap.size) : SinceT B T W P :=
  ⟨hT.2, fun w' hs hk => h w' (Nat.le_trans hb.size hs) fun k h1 h2 => (hk k h1 (by omega)).trans (hb.block k h2)⟩
theorem SinceT.here {B T : Nat} {w : World} {P : World → Prop} (h : SinceT B T w P) : P w := h.2 w (Nat.le_refl _) fun _ _ _ => rfl
theorem SinceT.step {B T : Nat} {w w' : World} {P : World → Prop} (h : SinceT B T w P) (hs : w.heap.size ≤ w'.heap.size) (hb : ∀ k, B ≤ k → k < T → w'.heap[k]? = w.heap[k]?) : SinceT B T w' P :=
  ⟨Nat.le_trans h.1 hs, fun u h1 h2 => h.2 u (Nat.le_trans hs h1) fun k hk hlt => (h2 k hk hlt).trans (hb k hk hlt)⟩
theorem SinceT.within {B T lo hi : Nat} {w w' : World} {P : World → Prop} (h : SinceT B T w P) (hw : Within lo hi w w') (hT : T ≤ lo ∨ hi ≤ B) : SinceT B T w' P :=
  h.step hw.size fun k hk hlt => hw.block k (by have := h.1; omega) (by omega)
theorem SinceT.below {B T : Nat} {w w' : World} {P : World → Prop} (h : SinceT B T w P) (hb : Below w.heap.size w w') : SinceT B T w' P := h.step hb.size fun k _ hlt => hb.block k (by have := h.1; omega)
theorem SinceT.mono {B B' T : Nat} {w : World} {P : World → Prop} (h : SinceT B T w P) (hB : B' ≤ B) : Since B' w P := fun w' hs hk => h.2 w' hs fun k h1 h2 => hk k (by omega) (by have := h.1; omega)
end Go.Proofs.Ytegomgnlhcbmfaa
namespace Go.Proofs.Ytegomgnlhcbmfaa
open Go.RowKit
set_option linter.unusedSimpArgs false
set_option linter.unusedVariables false

set_option maxHeartbeats 1000000 in
theorem spec_coinsZ (g : Nat) (P Q G z : Int) (w : World) (hz : z ≤ 0) :
    Calls Try.prog 132 #[.pointer (some ⟨g, 0, none⟩), .agg #[.int .i64 P, .int .i64 Q, .int .i64 G], .int .i64 z] w fun e w' => e = .returned (.slice none 0 0) ∧ Below w.heap.size w w' := by
  have hd : decide ((0 : Int) < z) = false := decide_eq_false (by omega)
  go_enter Try.func132, Try.ntmps132
  go_wp2_with fail
  refine wp_loop_rounds 1 ?_
  rw [rounds_succ]
  go_wp2_with fail
  go_ret
  exact ⟨rfl, by (repeat (first | exact Below.refl _ _ | assumption | refine Below.drew ?_ | refine Below.alloc ?_ (by first | (simp; done) | (simp; omega)) _ | refine Below.setCell ?_ (by first | (simp; done) | (simp; omega)) _))⟩
set_option maxRecDepth 100000 in
set_option maxHeartbeats 2000000 in
theorem spec_anyCoinsZ (w0 : World) (g : Nat) (n P Q G z : Int) (w : World) (h : Cur w0 w g n) (hb : Below w0.heap.size w0 w) (hn : n ≤ 900000000000000) (hz : z ≤ 0) :
    Calls Try.prog 98 #[.pointer (some ⟨g, 0, none⟩), .agg #[.int .i64 P, .int .i64 Q, .int .i64 G], .int .i64 z] w fun e w' => (∃ v' l, e = .returned v' ∧ Since w.heap.size w' (fun u => Ints u v' l) ∧ l.length ≤ 1) ∧ Cur w0 w' g (n + 4010) ∧ Within g (g + 1) w w' := by
  have hd : decide ((0 : Int) < z) = false := decide_eq_false (by omega)
  have hge := h.ge
  have hgw := h.lt
  obtain ⟨W, hW⟩ : ∃ W, W = w.alloc (.cells #[.int .i64 P, .int .i64 Q, .int .i64 G] 24) := ⟨_, rfl⟩
  have hbW : Below w.heap.size w W := by rw [hW]; (repeat (first | exact Below.refl _ _ | assumption | refine Below.drew ?_ | refine Below.alloc ?_ (by first | (simp; done) | (simp; omega)) _ | refine Below.setCell ?_ (by first | (simp; done) | (simp; omega)) _))
  have HX : Hid (BoxN W w.heap.size 24 [.int .i64 P, .int .i64 Q, .int .i64 G]) := by unfold Hid; rw [hW]; exact BoxN.new w [.int .i64 P, .int .i64 Q, .int .i64 G] 24
  have hsW : W.heap.size = w.heap.size + 1 := by rw [hW]; simp
  have HC := Lib.hid (h.keep hbW)
  have HWW : Hid (Within g (g + 1) w W) := Within.of_below hbW
  have HBB : Hid (Below w0.heap.size w0 W) := hb.trans (hbW.mono hb.size)
  have c0 := HX.out.cell (i := 0) rfl
  have c1 := HX.out.cell (i := 1) rfl
  have c2 := HX.out.cell (i := 2) rfl
  clear h hb
  go_enter Try.func98, Try.ntmps98
  go_wp2_with fail
  rw [← hW]
  clear hW hbW
  try (go_wp2_with fail)
  refine (spec_coinsZ g P Q G z _ (of_decide_eq_false hd |> Int.not_lt.1)).mono ?_
  rintro e w1 ⟨rfl, hb1⟩
  have hs1 := hb1.size
  replace HWW := Lib.hid (HWW.out.trans (Within.of_below hb1))
  replace HBB := Lib.hid (HBB.out.trans (hb1.mono HBB.out.size))
  replace HC := Lib.hid (HC.out.keep hb1)
  clear hb1 c0 c1 c2 HX
  go_wp2_with fail
  refine (spec_pick w0 g _ 30 _ HC.out HBB.out (by omega)).mono ?_
  rintro e wr ⟨⟨i, rfl, hi0, _, hi2, _⟩, hc, hw⟩
  clear hi2
  have hs2 := hw.size
  replace HWW := Lib.hid (HWW.out.trans hw)
  replace HC := Lib.hid hc
  clear hc hw
  rcases (by omega : i = 0 ∨ i = 1 ∨ i = 2 ∨ (i ≠ 0 ∧ i ≠ 1 ∧ i ≠ 2)) with rfl | rfl | rfl | ⟨i0, i1, i2⟩
  · go_wp2_with (at_builtin; refine wpList_append_ints rfl _ _ rfl w.heap.size _ _ [] [0] rfl (OwnI.nil _ _) rfl (Ints.lit1 _ ⟨by decide, by decide⟩) (by simp) (by simp; omega) ?_; intro v4 w4 hown4 hgr4)
    have hb4 := (OwnI.nil _ w.heap.size : OwnI _ w.heap.size (.slice none 0 0) []).grown hgr4 (by simp; omega)
    have hb5 := ((Below.refl w.heap.size wr).alloc (by omega) _).trans hb4
    go_ret
    exact ⟨⟨_, _, rfl, Since.of_ownI hown4 (Nat.le_refl _), by simp⟩, (HC.out.belowB hb5 (by omega)).mono (by omega), HWW.out.belowStep hb5⟩
  · go_wp2_with fail
    go_ret
    exact ⟨⟨_, [], rfl, fun u _ _ => Ints.nil u, by simp⟩, HC.out.mono (by omega), HWW.out⟩
  · go_wp2_with fail
    go_ret
    exact ⟨⟨_, [], rfl, fun u _ _ => Ints.nil u, by simp⟩, HC.out.mono (by omega), HWW.out⟩
  · have j0 : (i == 0) = false := by rw [beq_eq_false_iff_ne]; exact i0
    have j1 : (i == 1) = false := by rw [beq_eq_false_iff_ne]; exact i1
    have j2 : (i == 2) = false := by rw [beq_eq_false_iff_ne]; exact i2
    clear i0 i1 i2
    go_wp2_with fail
    go_ret
    exact ⟨⟨_, [], rfl, fun u _ _ => Ints.nil u, by simp⟩, HC.out.mono (by omega), HWW.out⟩
theorem spec_anyCoinsI (w0 : World) (g : Nat) (n P Q G z : Int) (w : World) (h : Cur w0 w g n) (hb : Below w0.heap.size w0 w) (hn : n ≤ 900000000000000) (hgr : GrB ⟨P, Q, G⟩) (hz : z ≤ 1000) :
    Calls Try.prog 98 #[.pointer (some ⟨g, 0, none⟩), .agg #[.int .i64 P, .int .i64 Q, .int .i64 G], .int .i64 z] w fun e w' => (∃ v' l, e = .returned v' ∧ Since w.heap.size w' (fun u => Ints u v' l) ∧ l.length ≤ 1001) ∧ Cur w0 w' g (n + 4010) ∧ Within g (g + 1) w w' := by
  by_cases h0 : z ≤ 0
  · refine (spec_anyCoinsZ w0 g n P Q G z w h hb hn h0).mono ?_
    rintro e w' ⟨⟨v, l, h1, h2, h3⟩, h4⟩
    exact ⟨⟨v, l, h1, h2, by omega⟩, h4⟩
  · obtain ⟨m, rfl⟩ : ∃ m : Nat, z = m := ⟨z.toNat, by omega⟩
    refine (spec_anyCoins w0 g n P Q G m w h hb hn hgr (by omega)).mono ?_
    rintro e w' ⟨⟨v, l, h1, h2, h3⟩, h4⟩
    exact ⟨⟨v, l, h1, h2, by omega⟩, h4⟩
end Go.Proofs.Ytegomgnlhcbmfaa
namespace Go.Proofs.Ytegomgnlhcbmfaa
open Go.RowKit
set_option linter.unusedSimpArgs false
set_option linter.unusedVariables false

/-- a tree of orders: a read; an operation that is one of those that can be next, with what follows it, and the others that can be next -/
inductive RegV where
  | done
  | nil
  | rd (i : Nat) (r : RegV)
  | alt (i : Nat) (s m : RegV)
inductive RegW where
  | done
  | nil
  | rd (o : Oper) (r : RegW)
  | alt (o : Oper) (s m : RegW)
def altsV : RegV → List Nat
  | .alt i _ m => i :: altsV m
  | _ => []
def inV : RegV → Nat → Bool
  | .done, _ => false
  | .nil, _ => false
  | .rd i r, k => i == k || inV r k
  | .alt i s m, k => i == k || (inV s k || inV m k)
def rdsV : RegV → List Nat
  | .done => []
  | .nil => []
  | .rd i r => i :: rdsV r
  | .alt _ s m => rdsV s ++ rdsV m
def lexV (ops : Array Oper) (tl : List Nat) : Bool → Nat → RegV → Array Bool → Bool
  | b, n, .done, listed => !b && (n == 0 && seqI ops tl listed)
  | b, _, .nil, _ => b
  | b, n, .rd i r, listed => !b && (n != 0 && ((Region.ready .any ops listed).contains i && (Region.free .any ops listed i && lexV ops tl false (n - 1) r (listed.setIfInBounds i true))))
  | b, n, .alt i s m, listed => (b || decide (Region.ready .any ops listed = i :: altsV m)) && (n != 0 && (lexV ops tl false (n - 1) s (listed.setIfInBounds i true) && lexV ops tl true n m listed))
def takeV (ops : Array Oper) (F n : Nat) (t : RegV) (tl : List Nat) : Bool :=
  Region.noSelect ops && ((tl.all fun k => !inV t k) && (((List.range ops.size).all fun k => inV t k || (rdsV t).all fun i => regNeeds ops F k i) && lexV ops tl false n t (Array.replicate ops.size false)))
def pickV (l : List Oper) : RegV → RegW
  | .done => .done
  | .nil => .nil
  | .rd i r => match l[i]? with
    | some o => .rd o (pickV l r)
    | none => pickV l r
  | .alt i s m => match l[i]? with
    | some o => .alt o (pickV l s) (pickV l m)
    | none => pickV l m
section
variable {P : Program} {ops : Array Oper} {Q : Exit → Act → World → Prop} {S : World → Prop}
def wpV (P : Program) (ops : Array Oper) (Q : Exit → Act → World → Prop) (S : World → Prop) (K : Act → World → Prop) : RegW → Act → World → Prop
  | .done, a, w => K a w
  | .nil, _, _ => True
  | .rd o r, a, w => if Region.wanted o (yielded ops a.tmps) then ∃ v, (∀ w', S w' → (execOp a.eval o).run P w' = .ok (.value v) w') ∧ wpV P ops Q S K r (a.put o.dst v) w else wpV P ops Q S K r (a.put o.dst undef) w
  | .alt o s m, a, w => wpO P ops Q o (fun a' w' => S w' ∧ wpV P ops Q S K s a' w') a w ∧ wpV P ops Q S K m a w
theorem wpV_done {K : Act → World → Prop} {a : Act} {w : World} (h : K a w) : wpV P ops Q S K .done a w := h
theorem wpV_read {K : Act → World → Prop} {o : Oper} {r : RegW} {a : Act} {w : World} (v : Value) (hw : Region.wanted o (yielded ops a.tmps) = true)
    (hy : ∀ w', S w' → (execOp a.eval o).run P w' = .ok (.value v) w') (h : wpV P ops Q S K r (a.put o.dst v) w) : wpV P ops Q S K (.rd o r) a w := by
  unfold wpV; rw [if_pos hw]; exact ⟨v, hy, h⟩
theorem wpV_do {K : Act → World → Prop} {o : Oper} {s : RegW} {a : Act} {w : World} (hw : Region.wanted o (yielded ops a.tmps) = true)
    (h : ∀ K' : Act → World → Prop, Shut (∀ a w, S w → (S w → wpV P ops Q S K s a w) → K' a w) → o.wp P a w K' Q) : wpV P ops Q S K (.alt o s .nil) a w := ⟨wpO_do hw h, trivial⟩
theorem wpAnyT_of_V {l : List Oper} (hl : ops = l.toArray) {F : Nat} {Hd : Nat → Bool} {K : Act → World → Prop} {tl : List Nat} (hsel : Region.noSelect ops = true) (hT : ∀ t ∈ tl, Hd t = false)
    (hQ : ∀ c a d v w, Q (.panic c) (a.put d v) w → Q (.panic c) a w) :
    ∀ (t : RegV), (∀ k, inV t k = true → Hd k = true) → (∀ i ∈ rdsV t, ∀ u, u < ops.size → Hd u = false → regNeeds ops F u i = true) →
      (∀ (n : Nat) (listed : Array Bool) (a : Act) (w : World), InvT ops Hd listed → lexV ops tl false n t listed = true → S w → wpV P ops Q S K (pickV l t) a w →
        wpAnyT P ops Q S Hd (fun listed' a' w' => seqI ops tl listed' = true ∧ K a' w') n listed a w) ∧
      (∀ (n : Nat) (listed : Array Bool) (a : Act) (w : World), InvT ops Hd listed → lexV ops tl true n t listed = true → wpV P ops Q S K (pickV l t) a w →
        ∀ j ∈ altsV t, j ∈ Region.ready .any ops listed → Hd j = true ∧ n ≠ 0 ∧ wpOp P ops Q j (fun a' w' => S w' ∧ wpAnyT P ops Q S Hd (fun listed' a' w' => seqI ops tl listed' = true ∧ K a' w') (n - 1) (listed.setIfInBounds j true) a' w') a w)
  | .done, _, _ => ⟨fun n listed a w _ hB _ h => by
      simp only [lexV, Bool.not_false, Bool.true_and, Bool.and_eq_true, beq_iff_eq] at hB
      obtain ⟨rfl, hB⟩ := hB
      exact ⟨hB, h⟩, fun n listed a w _ hB => by simp [lexV] at hB⟩
  | .nil, _, _ => ⟨fun n listed a w _ hB => by simp [lexV] at hB, fun n listed a w _ _ _ j hj => by simp [altsV] at hj⟩
  | .rd i r, h1, h2 => by
    have ih := wpAnyT_of_V (F := F) (K := K) hl hsel hT hQ r (fun k hk => h1 k (by simp [inV, hk])) (fun i' hi' => h2 i' (by simp [rdsV, hi']))
    refine ⟨fun n listed a w inv hB hS h => ?_, fun n listed a w _ hB => by simp [lexV] at hB⟩
    simp only [lexV, Bool.not_false, Bool.true_and, Bool.and_eq_true, bne_iff_ne] at hB
    obtain ⟨hn, hr, hf, hB'⟩ := hB
    have hr' : i ∈ Region.ready .any ops listed := by simpa using hr
    obtain ⟨oi, hli, hoi⟩ := ready_get hl hr'
    obtain ⟨n', rfl⟩ : ∃ n', n = n' + 1 := ⟨n - 1, by omega⟩
    rw [Nat.add_sub_cancel] at hB'
    unfold pickV at h
    rw [hli] at h
    have h1' : Hd i = true := h1 i (by simp [inV])
    have h2' : ∀ u, u < ops.size → Hd u = false → regNeeds ops F u i = true := h2 i (by simp [rdsV])
    unfold wpV at h
    by_cases hw : Region.wanted oi (yielded ops a.tmps) = true
    · rw [if_pos hw] at h
      obtain ⟨v, hy, hK⟩ := h
      exact wpAnyT_first hoi (Region.noSelect_spec hsel) (fun c a w => hQ c a _ _ w) h2' h1' (fun listed' a' w' hL => seqI_ready hT hL.1) n' listed a w inv (Region.free_spec hoi hf) hr' (.inl ⟨hw, hy⟩) hS
        (ih.1 n' _ _ w (inv.set hr') hB' hS hK)
    · rw [if_neg hw] at h
      exact wpAnyT_first hoi (Region.noSelect_spec hsel) (fun c a w => hQ c a _ _ w) h2' h1' (fun listed' a' w' hL => seqI_ready hT hL.1) n' listed a w inv (Region.free_spec hoi hf) hr' (.inr ⟨by simpa using hw, rfl⟩) hS
        (ih.1 n' _ _ w (inv.set hr') hB' hS h)
  | .alt i s m, h1, h2 => by
    have ihs := wpAnyT_of_V (F := F) (K := K) hl hsel hT hQ s (fun k hk => h1 k (by simp [inV, hk])) (fun i' hi' => h2 i' (by simp [rdsV, hi']))
    have ihm := wpAnyT_of_V (F := F) (K := K) hl hsel hT hQ m (fun k hk => h1 k (by simp [inV, hk])) (fun i' hi' => h2 i' (by simp [rdsV, hi']))
    have key : ∀ (n : Nat) (listed : Array Bool) (a : Act) (w : World), InvT ops Hd listed → n ≠ 0 → lexV ops tl false (n - 1) s (listed.setIfInBounds i true) = true → lexV ops tl true n m listed = true → wpV P ops Q S K (pickV l (.alt i s m)) a w →
        ∀ j ∈ i :: altsV m, j ∈ Region.ready .any ops listed → Hd j = true ∧ n ≠ 0 ∧ wpOp P ops Q j (fun a' w' => S w' ∧ wpAnyT P ops Q S Hd (fun listed' a' w' => seqI ops tl listed' = true ∧ K a' w') (n - 1) (listed.setIfInBounds j true) a' w') a w := by
      intro n listed a w inv hn hBs hBm h j hj hr
      by_cases hji : j = i
      · subst hji
        obtain ⟨oi, hli, hoi⟩ := ready_get hl hr
        unfold pickV at h
        rw [hli] at h
        unfold wpV at h
        exact ⟨h1 j (by simp [inV]), hn, wpOp_mono (fun a' w' hh => ⟨hh.1, ihs.1 (n - 1) _ a' w' (inv.set hr) hBs hh.1 hh.2⟩) (wpOp_of_O hl hli h.1)⟩
      · have hj' : j ∈ altsV m := by
          rcases List.mem_cons.1 hj with h | h
          · exact absurd h hji
          · exact h
        have hm : wpV P ops Q S K (pickV l m) a w := by
          unfold pickV at h
          split at h
          · unfold wpV at h; exact h.2
          · exact h
        exact ihm.2 n listed a w inv hBm hm j hj' hr
    refine ⟨fun n listed a w inv hB hS h => ?_, fun n listed a w inv hB h j hj hr => ?_⟩
    · simp only [lexV, Bool.false_or, Bool.and_eq_true, decide_eq_true_eq, bne_iff_ne] at hB
      obtain ⟨hf, hn, hBs, hBm⟩ := hB
      obtain ⟨n', rfl⟩ : ∃ n', n = n' + 1 := ⟨n - 1, by omega⟩
      refine ⟨fun h0 => (by rw [h0] at hf; cases hf), fun j hj => ?_⟩
      have hk := key (n' + 1) listed a w inv hn hBs hBm h j (by rw [← hf]; exact hj) hj
      exact ⟨hk.1, hk.2.2⟩
    · simp only [lexV, Bool.true_or, Bool.true_and, Bool.and_eq_true, bne_iff_ne] at hB
      obtain ⟨hn, hBs, hBm⟩ := hB
      exact key n listed a w inv hn hBs hBm h j hj hr
/-- the tree's walk serves all orders -/
theorem wp_region_V {id : Nat} {a : Act} {w : World} {l : List Oper} (S : World → Prop) (F n : Nat) (t : RegV) (tl : List Nat) (hm : P.follows .mixedOrders = true) (hB : takeV l.toArray F n t tl = true) (hsz : l.length = n + tl.length)
    (hQ : ∀ c a d v w, Q (.panic c) (a.put d v) w → Q (.panic c) a w) (hS : S w.drew)
    (h : wpV P l.toArray Q S (fun a' w' => wpList P l.toArray Q (pickN l tl) a' w') (pickV l t) a w.drew) : (Code.region id l.toArray true).wp P Q a w := by
  simp only [takeV, Bool.and_eq_true] at hB
  obtain ⟨hsel, hT, hN, hlex⟩ := hB
  have hT' : ∀ k ∈ tl, inV t k = false := fun k hk => by have := List.all_eq_true.1 hT k hk; simpa using this
  have inv0 : InvT l.toArray (inV t) (Array.replicate l.toArray.size false) := ⟨by simp, fun j oj _ hl => by
    exfalso
    rcases Nat.lt_or_ge j l.toArray.size with h | h
    · simp at hl
      have : j < l.length := by simpa using h
      simp [this] at hl
    · have h' : ¬ j < l.length := by simpa using h
      simp [h'] at hl⟩
  have hh : ∀ i ∈ rdsV t, ∀ u, u < l.toArray.size → inV t u = false → regNeeds l.toArray F u i = true := fun i hi u hu hf => by
    have h1 := List.all_eq_true.1 hN u (List.mem_range.2 hu)
    rw [hf, Bool.false_or] at h1
    exact List.all_eq_true.1 h1 i hi
  refine wp_region_any hm ?_
  have H := (wpAnyT_of_V (P := P) (Q := Q) (S := S) (l := l) rfl hsel hT' hQ t (fun k hk => hk) hh).1 n _ a w.drew inv0 hlex hS h
  have H2 := wpAny_of_T (g := tl.length) (fun listed' a' w' hL => wpAny_of_seqI (P := P) (Q := Q) (l := l) rfl tl listed' a' w' hL.1 hL.2) n _ a w.drew H
  have e : l.toArray.size = n + tl.length := by simpa using hsz
  rw [e]
  rw [e] at H2
  exact H2
end
attribute [irreducible] wpV
end Go.Proofs.Ytegomgnlhcbmfaa
namespace Go.Proofs.Ytegomgnlhcbmfaa
open Go.RowKit
set_option linter.unusedSimpArgs false
set_option linter.unusedVariables false

def FrR {δ : Type} (e : TypeId) (R : RowK δ) (w0 w : World) (B : Nat) (v : Value) (ds : List δ) : Prop :=
  ∃ css : List (List Value), css.length = ds.length ∧ w.ownsRow B e R.width v ds.length css.flatten ∧ ∀ i (h1 : i < css.length) (h2 : i < ds.length), R.rd w0 css[i] ds[i]
section
variable {δ : Type} {e : TypeId} {R : RowK δ} {w0 w w' : World} {B : Nat} {v : Value} {ds es : List δ}
theorem FrR.lens {css : List (List Value)} (hl : css.length = ds.length) (hel : ∀ i (h1 : i < css.length) (h2 : i < ds.length), R.rd w0 css[i] ds[i]) : ∀ c ∈ css, c.length = R.width := by
  intro c hc
  obtain ⟨i, hi, rfl⟩ := List.getElem_of_mem hc
  exact R.rd_len (hel i hi (by omega))
theorem FrR.ones {css : List (List Value)} (hl : css.length = ds.length) (hel : ∀ i (h1 : i < css.length) (h2 : i < ds.length), R.rd w0 css[i] ds[i]) : ∀ u ∈ css.flatten, u.oneCell' = true := by
  intro u hu
  obtain ⟨c, hc, hu⟩ := List.mem_flatten.1 hu
  obtain ⟨i, hi, rfl⟩ := List.getElem_of_mem hc
  exact R.rd_one (hel i hi (by omega)) u hu
theorem FrR.rd (h : FrR e R w0 w B v ds) (hb : Below w0.heap.size w0 w) : RdR R w v ds := by
  obtain ⟨css, hl, hO, hel⟩ := h
  have hlen := FrR.lens hl hel
  have hO' := hO
  obtain ⟨hl1, ⟨rfl, h0⟩ | ⟨g, c, cur, rfl, hbb, hgc, hnc, hcm, hcs, htake⟩⟩ := hO
  · have : ds = [] := List.eq_nil_of_length_eq_zero h0
    subst this; exact RdR.nil R w
  · refine ⟨some ⟨g, 0, none⟩, ds.length, c, rfl, rfl, hnc, hcm, .inr (.inr ⟨g, 0, rfl, fun i hi => ?_⟩)⟩
    refine ⟨css[i]'(by omega), fun k hk => ?_, R.rd_below (hel i (by omega) hi) hb⟩
    have h1 := World.ownsRow.cellAt hO' (i * R.width + k) (by
      have : (i + 1) * R.width ≤ ds.length * R.width := Nat.mul_le_mul_right _ hi
      rw [Nat.succ_mul] at this; omega)
    rw [Nat.zero_add, h1, flat_get hlen hk, List.getElem?_eq_getElem (by omega)]
    rfl
theorem FrR.nil (e : TypeId) (R : RowK δ) (w0 w : World) (B : Nat) : FrR e R w0 w B (.slice none 0 0) [] :=
  ⟨[], rfl, by simpa using World.ownsRow_nil w B e R.width, fun i h1 _ => by simp at h1⟩
theorem FrR.below (h : FrR e R w0 w B v ds) (hb : Below w.heap.size w w') : FrR e R w0 w' B v ds := by
  obtain ⟨css, hl, hO, hel⟩ := h
  exact ⟨css, hl, ownsRow_frame hO fun g hg => hb.block g (hO.lt g hg).2, hel⟩
theorem FrR.frame (h : FrR e R w0 w B v ds) (hf : ∀ g, v.ownBlock = some g → w'.heap[g]? = w.heap[g]?) : FrR e R w0 w' B v ds := by
  obtain ⟨css, hl, hO, hel⟩ := h
  exact ⟨css, hl, ownsRow_frame hO hf, hel⟩
theorem FrR.lt (h : FrR e R w0 w B v ds) : ∀ g, v.ownBlock = some g → B ≤ g ∧ g < w.heap.size := by
  obtain ⟨css, hl, hO, hel⟩ := h
  exact fun g hg => hO.lt g hg
theorem FrR.mono {B' : Nat} (h : FrR e R w0 w B v ds) (hB : B' ≤ B) : FrR e R w0 w B' v ds := by
  obtain ⟨css, hl, hO, hel⟩ := h
  exact ⟨css, hl, ownsRow_mono hO hB, hel⟩
/-- more structs -/
theorem run_append_Fr {P : Program} (ts : TypeId) (i : TypeInfo) (z : Value) (ht : P.underlying ts = some (.slice e)) (hi' : P.info? e = some i) (hz : i.zero = some z) (hsz : i.size = R.width) (hby : i.bytes ≤ 1000) (hzs : z.cells.size = R.width) (hpos : 0 < R.width)
    (hown : FrR e R w0 w B v ds) (ad : Addr) (m c : Nat) (css' : List (List Value)) (hl' : css'.length = es.length) (hm : es.length = m) (hnews : ∀ j u, css'.flatten[j]? = some u → w.cell? (ad.add j) = some u)
    (hrd : ∀ i (h1 : i < css'.length) (h2 : i < es.length), R.rd w0 css'[i] es[i]) (hB : B ≤ w.heap.size) (hlen : ds.length + es.length ≤ 1000000000) (ty : TypeId) :
    ∃ v' w', (Builtin.append_ #[ts, ts] ty #[v, .slice (some ad) m c]).run P w = .ok v' w' ∧ FrR e R w0 w' B v' (ds ++ es) ∧ Below B w w' := by
  obtain ⟨css, hvl, hO, hel⟩ := hown
  have hb1 : (ds.length + m) * i.bytes ≤ 140737488355328 := by
    have : (ds.length + m) * i.bytes ≤ 1000000000 * 1000 := Nat.mul_le_mul (by omega) hby
    omega
  have hfl := flat_len (FrR.lens hl' hrd)
  obtain ⟨v', w', hr, h1, h2, _⟩ := run_append_own (P := P) w B ts ty e i z R.width i.bytes ht hi' hz hsz rfl hzs hpos v ds.length css.flatten hO ad m c css'.flatten (by rw [hfl, hl', hm]) hnews (FrR.ones hl' hrd) (by unfold maxLen; omega) hb1 hB
  refine ⟨v', w', hr, ⟨css ++ css', by simp [hvl, hl'], by simpa [List.flatten_append, hm] using h1, fun k k1 k2 => ?_⟩, (Below.refl B w).grown h2 hB (fun k hk => (hO.lt k hk).1)⟩
  by_cases hk : k < ds.length
  · rw [List.getElem_append_left (by omega), List.getElem_append_left hk]
    exact hel k (by omega) hk
  · rw [List.getElem_append_right (by omega), List.getElem_append_right (by omega)]
    have e1 : k - css.length = k - ds.length := by omega
    simp only [List.length_append] at k2
    have := hrd (k - ds.length) (by omega) (by omega)
    simpa only [e1] using this
theorem wpList_append_Fr {P : Program} (ts : TypeId) (i : TypeInfo) (z : Value) (ht : P.underlying ts = some (.slice e)) (hi' : P.info? e = some i) (hz : i.zero = some z) (hsz : i.size = R.width) (hby : i.bytes ≤ 1000) (hzs : z.cells.size = R.width) (hpos : 0 < R.width)
    {ops : Array Oper} {rest : List Oper} {o : Oper} {ac : Act} {Q : Exit → Act → World → Prop} (hgd : o.guard = none) (s y : Operand)
    (ho : o.op = .call { callee := .builtin .append, args := #[s, y], argTypes := #[ts, ts] })
    (hown : FrR e R w0 w B v ds) (ad : Addr) (m c : Nat) (css' : List (List Value)) (hs : ac.eval s = v) (hy : ac.eval y = .slice (some ad) m c) (hl' : css'.length = es.length) (hm : es.length = m) (hnews : ∀ j u, css'.flatten[j]? = some u → w.cell? (ad.add j) = some u)
    (hrd : ∀ i (h1 : i < css'.length) (h2 : i < es.length), R.rd w0 css'[i] es[i]) (hB : B ≤ w.heap.size) (hlen : ds.length + es.length ≤ 1000000000)
    (hK : ∀ v' w', FrR e R w0 w' B v' (ds ++ es) → Below B w w' → wpList P ops Q rest (ac.put o.dst v') w') : wpList P ops Q (o :: rest) ac w := by
  obtain ⟨v', w', hr, h1, h2⟩ := run_append_Fr ts i z ht hi' hz hsz hby hzs hpos hown ad m c css' hl' hm hnews hrd hB hlen o.type
  refine wpList_plain hgd fun K hK' => ?_
  unfold Oper.wp execOp
  simp only [ho, resolve, invoke, builtin, Sem.run_bind, Sem.run_pure, Result.andThen_ok, List.map_toArray, List.map_cons, List.map_nil, hs, hy, hr]
  exact hK' _ _ (hK v' w' h1 h2)
end
end Go.Proofs.Ytegomgnlhcbmfaa
namespace Go.Proofs.Ytegomgnlhcbmfaa
open Go.RowKit
set_option linter.unusedSimpArgs false
set_option linter.unusedVariables false

structure EqualLogD where
  g1 : Int
  y1 : Int
  g2 : Int
  y2 : Int
deriving DecidableEq
abbrev rEqualLog : RowK EqualLogD := rMap (rI (rI (rI (rI rNil)))) (fun d => (d.g1, (d.y1, (d.g2, (d.y2, ())))))
theorem rdEqualLog {w : World} {v : Value} {d : EqualLogD} : (kS rEqualLog).rd w v d ↔ v = .agg #[.int .i64 d.g1, .int .i64 d.y1, .int .i64 d.g2, .int .i64 d.y2] ∧ I64 d.g1 ∧ I64 d.y1 ∧ I64 d.g2 ∧ I64 d.y2 := by
  constructor
  · rintro ⟨_, rfl, ⟨_, rfl, i1, ⟨_, rfl, i2, ⟨_, rfl, i3, ⟨_, rfl, i4, rfl⟩⟩⟩⟩⟩
    exact ⟨rfl, i1, i2, i3, i4⟩
  · rintro ⟨rfl, g0, g1, g2, g3⟩
    exact ⟨_, rfl, ⟨_, rfl, g0, ⟨_, rfl, g1, ⟨_, rfl, g2, ⟨_, rfl, g3, rfl⟩⟩⟩⟩⟩
end Go.Proofs.Ytegomgnlhcbmfaa
