/- The algebra of groups: powers and products of elements: plain Lean. -/
import Derived.Test.YtacpnphfopmofaaPow2SM
import Derived.Test.YtacpnphfopmofaaBmSM
import Derived.Test.YtacpnphfopmofaaPow1SM
import Derived.Lib.VarintBits
import Derived.Deep.QuietTactic
import Derived.BigQuiet
namespace Go.Proofs.Ytacpnphfopmofaa
open Go.RowKit
set_option linter.unusedSimpArgs false
set_option linter.unusedVariables false

/-- the product of two residues -/
theorem mulT {gr : GroupD} (a b : Int) : mulL gr [a, b] = a * b % gr.p := by
  unfold mulL
  simp only [List.foldl_cons, List.foldl_nil, Int.one_mul]
  rw [emod_mul_left]
theorem elT {gr : GroupD} (hg : OkG gr) {x : Int} (h0 : 0 ≤ x) (h1 : x < gr.p) (h : powM x gr.q gr.p = 1) : elB gr x = true := by
  have hp := hg.p1
  have hq := hg.q1
  have h2 : x ≠ 0 := fun h3 => by
    rw [h3] at h
    unfold powM at h
    obtain ⟨n, hn⟩ : ∃ n, gr.q.toNat = n + 1 := ⟨gr.q.toNat - 1, by omega⟩
    rw [hn, Int.pow_succ, Int.mul_zero] at h
    simp at h
  unfold elB
  rw [h, Bool.and_eq_true, decide_eq_true_iff]
  exact ⟨by omega, rfl⟩
theorem elT_mod {gr : GroupD} (hg : OkG gr) {x : Int} (h : elB gr x = true) : x % gr.p = x := by
  obtain ⟨h1, h2⟩ := elB_bd h
  exact Int.emod_eq_of_lt (by omega) (by omega)
theorem pow_one_mod {a p : Int} (hp : 1 < p) (h : a % p = 1) (k : Nat) : a ^ k % p = 1 := by
  rw [← emod_pow, h, Int.one_pow]
  exact Int.emod_eq_of_lt (by omega) hp
theorem elT_pow {gr : GroupD} (hg : OkG gr) {x : Int} (h : elB gr x = true) (e : Int) : elB gr (powE gr x e) = true := by
  have hp := hg.p1
  obtain ⟨h1, h2⟩ := powE_bd hg x e
  refine elT hg h1 h2 ?_
  have h3 := elB_pow h
  unfold powM at h3
  unfold powE powM
  rw [emod_pow, ← Int.pow_mul, Nat.mul_comm, Int.pow_mul]
  exact pow_one_mod (by omega) h3 _
theorem powE_emod (gr : GroupD) (x e : Int) : powE gr x (e % gr.q) = powE gr x e := by
  unfold powE; rw [Int.emod_emod]
/-- a power of an element goes by the residue of the exponent -/
theorem powE_nat {gr : GroupD} (hg : OkG gr) {x : Int} (h : elB gr x = true) (k : Nat) : powE gr x (k : Int) = x ^ k % gr.p := by
  have hq := hg.q1
  have h1 := elB_pow h
  obtain ⟨d, hd⟩ : ∃ d : Nat, gr.q = d := ⟨gr.q.toNat, by omega⟩
  have h2 : yE gr x d = 1 := by rw [hd] at h1; exact h1
  have h3 := yE_mod gr x (d := d) (by omega) h2 k
  have e1 : ((k : Int) % gr.q) = ((k % d : Nat) : Int) := by rw [hd]; omega
  show powM x ((k : Int) % gr.q) gr.p = x ^ k % gr.p
  rw [e1]
  exact h3.symm
theorem powE_add {gr : GroupD} (hg : OkG gr) {x : Int} (h : elB gr x = true) (a b : Int) : powE gr x (a + b) = powE gr x a * powE gr x b % gr.p := by
  have hq := hg.q1
  have e1 : 0 ≤ a % gr.q := Int.emod_nonneg _ (by omega)
  have e2 : 0 ≤ b % gr.q := Int.emod_nonneg _ (by omega)
  obtain ⟨i, hi⟩ : ∃ i : Nat, a % gr.q = i := ⟨(a % gr.q).toNat, by omega⟩
  obtain ⟨j, hj⟩ : ∃ j : Nat, b % gr.q = j := ⟨(b % gr.q).toNat, by omega⟩
  rw [← powE_emod gr x (a + b), Int.add_emod, hi, hj, powE_emod, ← powE_emod gr x a, ← powE_emod gr x b, hi, hj, powE_nat hg h, powE_nat hg h, show ((i : Int) + (j : Int)) = ((i + j : Nat) : Int) by omega, powE_nat hg h, Int.pow_add, Int.mul_emod]
theorem powE_pow {gr : GroupD} (hg : OkG gr) {x : Int} (h : elB gr x = true) (a b : Int) : powE gr (powE gr x a) b = powE gr x (a * b) := by
  have hq := hg.q1
  have e1 : 0 ≤ a % gr.q := Int.emod_nonneg _ (by omega)
  have e2 : 0 ≤ b % gr.q := Int.emod_nonneg _ (by omega)
  obtain ⟨i, hi⟩ : ∃ i : Nat, a % gr.q = i := ⟨(a % gr.q).toNat, by omega⟩
  obtain ⟨j, hj⟩ : ∃ j : Nat, b % gr.q = j := ⟨(b % gr.q).toNat, by omega⟩
  rw [← powE_emod gr x (a * b), Int.mul_emod, hi, hj, powE_emod, ← powE_emod gr (powE gr x a) b, hj, powE_nat hg (elT_pow hg h a), ← powE_emod gr x a, hi, powE_nat hg h, emod_pow, ← Int.pow_mul, show ((i : Int) * (j : Int)) = ((i * j : Nat) : Int) by rw [Int.natCast_mul], powE_nat hg h]
theorem powE_zero {gr : GroupD} (hg : OkG gr) {x : Int} : powE gr x 0 = 1 := by
  have := hg.p1
  unfold powE powM
  rw [Int.zero_emod, show (0 : Int).toNat = 0 from rfl, Int.pow_zero]
  exact Int.emod_eq_of_lt (by omega) (by omega)
theorem powE_single {gr : GroupD} (hg : OkG gr) {x : Int} (h : elB gr x = true) : powE gr x 1 = x := by
  have h1 := powE_nat hg h 1
  rw [Int.pow_succ, Int.pow_zero, Int.one_mul, elT_mod hg h] at h1
  exact h1
theorem powE_neg {gr : GroupD} (hg : OkG gr) {x : Int} (h : elB gr x = true) (a : Int) : powE gr x a * powE gr x (-a) % gr.p = 1 := by
  rw [← powE_add hg h, show a + -a = 0 by omega, powE_zero hg]
/-- what is multiplied by a power and its opposite stays -/
theorem mul_cancel {gr : GroupD} (hg : OkG gr) {y x : Int} (hy : elB gr y = true) (hx : elB gr x = true) (a : Int) : y * powE gr x a % gr.p * powE gr x (-a) % gr.p = y := by
  rw [emod_mul_left, Int.mul_assoc, ← emod_mul_right, powE_neg hg hx, Int.mul_one, elT_mod hg hy]
theorem mul_cancel' {gr : GroupD} (hg : OkG gr) {y x : Int} (hy : elB gr y = true) (hx : elB gr x = true) (a : Int) : y * powE gr x (-a) % gr.p * powE gr x a % gr.p = y := by
  have h := mul_cancel hg hy hx (-a)
  rwa [Int.neg_neg] at h
/-- the equation of a proof of an exponent: x^(w + e*s) = x^w * (x^s)^e -/
theorem sigma_eq {gr : GroupD} (hg : OkG gr) {x : Int} (h : elB gr x = true) (w e s : Int) : powE gr x ((w + e * s) % gr.q) = powE gr x w * powE gr (powE gr x s) e % gr.p := by
  rw [powE_emod, powE_add hg h, powE_pow hg h, Int.mul_comm e s]
end Go.Proofs.Ytacpnphfopmofaa
namespace Go.Proofs.Ytacpnphfopmofaa
open Go.RowKit
set_option linter.unusedSimpArgs false
set_option linter.unusedVariables false

/-- what a round of Euclid's algorithm keeps: r and n are multiples of a (by x and y), the coefficients stay below m, a common divisor divides both -/
def EuInv (a m r n x y : Int) : Prop :=
  0 ≤ n ∧ 1 ≤ r ∧ r ≤ m ∧ n ≤ m ∧ (∃ u v : Int, 0 ≤ u ∧ 0 ≤ v ∧ u * n + v * r = m ∧ u ≤ m ∧ v ≤ m ∧ ((x = u ∧ y = -v) ∨ (x = -u ∧ y = v))) ∧ m ∣ x * a - r ∧ m ∣ y * a - n ∧ (∀ d : Int, d ∣ r → d ∣ n → d ∣ m ∧ d ∣ a)
theorem EuInv.start {a m : Int} (h0 : 0 ≤ a) (h1 : a ≤ m) (hm : 1 ≤ m) : EuInv a m m a 0 1 := by
  refine ⟨h0, hm, Int.le_refl _, h1, ⟨0, 1, by omega, by omega, by omega, by omega, hm, .inr ⟨rfl, rfl⟩⟩, ⟨-1, by omega⟩, ⟨0, by omega⟩, fun d h2 h3 => ⟨h2, h3⟩⟩
theorem EuInv.quo {a m r n x y : Int} (h : EuInv a m r n x y) (hn : 0 < n) : 0 ≤ r / n ∧ r / n ≤ m ∧ 0 ≤ r / n * n ∧ r / n * n ≤ r ∧ r - r / n * n < n ∧ 0 ≤ r - r / n * n := by
  obtain ⟨h0, h1, h2, h3, _⟩ := h
  have e1 : 0 ≤ r / n := Int.ediv_nonneg (by omega) (by omega)
  have e2 : r / n * n ≤ r := Int.ediv_mul_le _ (by omega)
  have e3 : r - r / n * n = r % n := by have := Int.emod_def r n; rw [this, Int.mul_comm]
  have e4 := Int.emod_lt_of_pos r hn
  have e5 : r / n ≤ r := Int.ediv_le_self _ (by omega)
  exact ⟨e1, by omega, Int.mul_nonneg e1 (by omega), e2, by omega, by omega⟩
theorem EuInv.step {a m r n x y : Int} (h : EuInv a m r n x y) (hn : 0 < n) : EuInv a m n (r - r / n * n) y (x - r / n * y) ∧ -m ≤ r / n * y ∧ r / n * y ≤ m := by
  obtain ⟨q0, q1, q2, q3, q4, q5⟩ := h.quo hn
  obtain ⟨h0, h1, h2, h3, ⟨u, v, h4, h5, h6, h7, h8, h9⟩, h10, h11, h12⟩ := h
  obtain ⟨q, hq⟩ : ∃ q, r / n = q := ⟨_, rfl⟩
  rw [hq] at q0 q1 q2 q3 q4 q5 ⊢
  have hqv : 0 ≤ q * v := Int.mul_nonneg q0 h5
  have e1 : (u + q * v) * n + v * (r - q * n) = u * n + v * r - (v * (q * n) - q * v * n) := by
    rw [Int.add_mul, Int.mul_sub]; omega
  have e2 : v * (q * n) = q * v * n := by ac_rfl
  have e3 : v * n + (u + q * v) * 0 = v * n := by omega
  -- the coefficients: v and u + q v
  have e4 : v * (r - q * n) + (u + q * v) * n = m := by rw [Int.add_comm, e1, e2]; omega
  have e5 : u + q * v ≤ m := by
    have s1 : 0 ≤ v * (r - q * n) := Int.mul_nonneg h5 q5
    have s2 : (u + q * v) * 1 ≤ (u + q * v) * n := Int.mul_le_mul_of_nonneg_left (by omega) (by omega)
    omega
  have e6 : -m ≤ q * y ∧ q * y ≤ m := by
    rcases h9 with ⟨_, rfl⟩ | ⟨_, rfl⟩
    · rw [Int.mul_neg]; omega
    · omega
  refine ⟨⟨q5, by omega, h3, by omega, ⟨v, u + q * v, h5, by omega, e4, h8, e5, ?_⟩, h11, ?_, fun d d1 d2 => ?_⟩, e6.1, e6.2⟩
  · rcases h9 with ⟨rfl, rfl⟩ | ⟨rfl, rfl⟩
    · exact .inr ⟨rfl, by rw [Int.mul_neg]; omega⟩
    · exact .inl ⟨rfl, by omega⟩
  · obtain ⟨c1, k1⟩ := h10
    obtain ⟨c2, k2⟩ := h11
    refine ⟨c1 - q * c2, ?_⟩
    have s1 : (x - q * y) * a - (r - q * n) = (x * a - r) - q * (y * a - n) := by
      rw [Int.sub_mul, Int.mul_sub, Int.mul_assoc]; omega
    rw [s1, k1, k2, Int.mul_sub]
    congr 1
    ac_rfl
  · refine h12 d ?_ d1
    obtain ⟨c1, k1⟩ := d1
    obtain ⟨c2, k2⟩ := d2
    refine ⟨c2 + q * c1, ?_⟩
    rw [Int.mul_add]
    have s1 : d * (q * c1) = q * n := by rw [k1]; ac_rfl
    omega
theorem Prm.gcd_one {a m r : Int} (hm : Prm m) (h0 : 0 < a) (h1 : a < m) (hr : 1 ≤ r) (h2 : r ∣ m) (h3 : r ∣ a) : r = 1 := by
  by_cases h : r = 1
  · exact h
  · exfalso
    have hra : r ≤ a := Int.le_of_dvd h0 h3
    obtain ⟨c, hc⟩ := h2
    have hc1 : 1 < c := by
      have s0 : 0 < c := by
        apply Int.not_le.1
        intro hle
        have s2 : r * c ≤ r * 0 := Int.mul_le_mul_of_nonneg_left hle (by omega)
        have := hm.1
        omega
      have s1 : c ≠ 1 := fun e => by rw [e] at hc; omega
      omega
    by_cases hle : r * r ≤ m
    · exact hm.2 r (by omega) hle (Int.emod_eq_zero_of_dvd ⟨c, hc⟩)
    · have hcr : c * c ≤ m := by
        have s1 : c ≤ r := by
          apply Int.not_lt.1
          intro hlt
          have : r * r ≤ r * c := Int.mul_le_mul_of_nonneg_left (by omega) (by omega)
          omega
        rw [hc]
        exact Int.mul_le_mul_of_nonneg_right s1 (by omega)
      exact hm.2 c (by omega) hcr (Int.emod_eq_zero_of_dvd ⟨r, by rw [hc, Int.mul_comm]⟩)
/-- the inverse of an exponent, found by Euclid's algorithm -/
theorem EuInv.done {a m r x y : Int} (h : EuInv a m r 0 x y) (hm : Prm m) (h0 : 0 < a) (h1 : a < m) : r = 1 ∧ a * (x % m) % m = 1 := by
  obtain ⟨_, h2, _, _, _, h3, _, h4⟩ := h
  obtain ⟨d1, d2⟩ := h4 r (Int.dvd_refl _) (Int.dvd_zero _)
  have hr := hm.gcd_one h0 h1 h2 d1 d2
  subst hr
  refine ⟨rfl, ?_⟩
  obtain ⟨c, hc⟩ := h3
  have hm2 := hm.1
  rw [emod_mul_right, Int.mul_comm, show x * a = 1 + m * c by omega, Int.add_mul_emod_self_left]
  exact Int.emod_eq_of_lt (by omega) (by omega)
theorem EuInv.ends {a m : Int} (hm : Prm m) (h0 : 0 < a) (h1 : a < m) : ∀ (k : Nat) (r n x y : Int), n.toNat ≤ k → EuInv a m r n x y → ∃ z, a * z % m = 1
  | 0, r, n, x, y, hk, h => by
    have h2 := h.1
    have e : n = 0 := by omega
    rw [e] at h
    exact ⟨_, (h.done hm h0 h1).2⟩
  | k + 1, r, n, x, y, hk, h => by
    have h2 := h.1
    by_cases e : n = 0
    · rw [e] at h
      exact ⟨_, (h.done hm h0 h1).2⟩
    · have h3 := h.quo (by omega)
      have h4 := (h.step (by omega)).1
      exact EuInv.ends hm h0 h1 k _ _ _ _ (by omega) h4
theorem inverse_is {a m : Int} (hm : Prm m) (h0 : 0 < a) (h1 : a < m) : ∃ z, a * z % m = 1 :=
  EuInv.ends hm h0 h1 a.toNat m a 0 1 (Nat.le_refl _) (EuInv.start (by omega) (by omega) (by have := hm.1; omega))
theorem inverse_bd {a m : Int} (hm : Prm m) (h0 : 0 < a) (h1 : a < m) : ∃ z, (0 ≤ z ∧ z < m) ∧ a * z % m = 1 := by
  obtain ⟨z, hz⟩ := inverse_is hm h0 h1
  have := hm.1
  exact ⟨z % m, ⟨Int.emod_nonneg _ (by omega), Int.emod_lt_of_pos _ (by omega)⟩, by rw [emod_mul_right]; exact hz⟩
open Classical in
/-- the inverse of an exponent -/
noncomputable def invQ (a m : Int) : Int := if h : ∃ z, (0 ≤ z ∧ z < m) ∧ a * z % m = 1 then h.choose else 0
theorem invQ_is {a m : Int} (hm : Prm m) (h0 : 0 < a) (h1 : a < m) : (0 ≤ invQ a m ∧ invQ a m < m) ∧ a * invQ a m % m = 1 := by
  have h := inverse_bd hm h0 h1
  unfold invQ
  rw [dif_pos h]
  exact h.choose_spec
theorem invQ_one {a m y : Int} (hm : Prm m) (h0 : 0 < a) (h1 : a < m) (hy : 0 ≤ y ∧ y < m) (h : a * y % m = 1) : y = invQ a m := by
  obtain ⟨hz, hz2⟩ := invQ_is hm h0 h1
  obtain ⟨z, e⟩ : ∃ z, invQ a m = z := ⟨_, rfl⟩
  rw [e] at hz hz2 ⊢
  have e1 : (y * (a * z)) % m = y := by rw [← emod_mul_right, hz2, Int.mul_one]; exact Int.emod_eq_of_lt hy.1 hy.2
  have e2 : (y * (a * z)) % m = z := by
    rw [show y * (a * z) = (a * y) * z by ac_rfl, ← emod_mul_left, h, Int.one_mul]; exact Int.emod_eq_of_lt hz.1 hz.2
  rw [← e1, e2]
theorem EuInv.inv {a m r x y : Int} (h : EuInv a m r 0 x y) (hm : Prm m) (h0 : 0 < a) (h1 : a < m) : r = 1 ∧ x % m = invQ a m := by
  obtain ⟨e1, e2⟩ := h.done hm h0 h1
  exact ⟨e1, invQ_one hm h0 h1 ⟨Int.emod_nonneg _ (by omega), Int.emod_lt_of_pos _ (by omega)⟩ e2⟩
end Go.Proofs.Ytacpnphfopmofaa
/- The struct Proof as a kind (printed by genkind.py): its data, its row, the walks of the laws' helpers. -/

namespace Go.Proofs.Ytacpnphfopmofaa
open Go.RowKit
set_option linter.unusedSimpArgs false
set_option linter.unusedVariables false

structure ProofD where
  c : List Int
  h : List Int
  r : List Int
deriving DecidableEq
end Go.Proofs.Ytacpnphfopmofaa
/- The struct Head as a kind (printed by genkind.py): its data, its row, the walks of the laws' helpers. -/


namespace Go.Proofs.Ytacpnphfopmofaa
open Go.RowKit
set_option linter.unusedSimpArgs false
set_option linter.unusedVariables false

end Go.Proofs.Ytacpnphfopmofaa
/- The struct Entry as a kind (printed by genkind.py): its data, its row, the walks of the laws' helpers. -/


namespace Go.Proofs.Ytacpnphfopmofaa
open Go.RowKit
set_option linter.unusedSimpArgs false
set_option linter.unusedVariables false

end Go.Proofs.Ytacpnphfopmofaa
namespace Go.Proofs.Ytacpnphfopmofaa
open Go.RowKit
set_option linter.unusedSimpArgs false
set_option linter.unusedVariables false

structure EqualLogD where
  g1 : Int
  y1 : Int
  g2 : Int
  y2 : Int
deriving DecidableEq
abbrev rEqualLog : RowK EqualLogD := rMap (rI (rI (rI (rI rNil)))) (fun d => (d.g1, (d.y1, (d.g2, (d.y2, ())))))
theorem rdEqualLog {w : World} {v : Value} {d : EqualLogD} : (kS rEqualLog).rd w v d ↔ v = .agg #[.int .i64 d.g1, .int .i64 d.y1, .int .i64 d.g2, .int .i64 d.y2] ∧ I64 d.g1 ∧ I64 d.y1 ∧ I64 d.g2 ∧ I64 d.y2 := by
  constructor
  · rintro ⟨_, rfl, ⟨_, rfl, i1, ⟨_, rfl, i2, ⟨_, rfl, i3, ⟨_, rfl, i4, rfl⟩⟩⟩⟩⟩
    exact ⟨rfl, i1, i2, i3, i4⟩
  · rintro ⟨rfl, g0, g1, g2, g3⟩
    exact ⟨_, rfl, ⟨_, rfl, g0, ⟨_, rfl, g1, ⟨_, rfl, g2, ⟨_, rfl, g3, rfl⟩⟩⟩⟩⟩
end Go.Proofs.Ytacpnphfopmofaa
namespace Go.Proofs.Ytacpnphfopmofaa
open Go.RowKit
set_option linter.unusedSimpArgs false
set_option linter.unusedVariables false

def eqEl (gr : GroupD) (e : EqualLogD) : Bool := [e.g1, e.y1, e.g2, e.y2].all (elB gr)
def eqTrue (gr : GroupD) (e : EqualLogD) (s : Int) : Bool := (powE gr e.g1 s == e.y1) && (powE gr e.g2 s == e.y2)
/-- the commit of a challenge and a response -/
def smX (gr : GroupD) (x y c z : Int) : Int := mulL gr [powE gr x z, powE gr y (-c)]
theorem eqEl_parts {gr : GroupD} {e : EqualLogD} (h : eqEl gr e = true) : elB gr e.g1 = true ∧ elB gr e.y1 = true ∧ elB gr e.g2 = true ∧ elB gr e.y2 = true := by
  unfold eqEl at h; simpa [and_assoc] using h
theorem smX_eq (gr : GroupD) (x y c z : Int) : smX gr x y c z = powE gr x z * powE gr y (-c) % gr.p := mulT _ _
theorem sm_iff {gr : GroupD} (hg : OkG gr) {x y a : Int} (hx : elB gr x = true) (hy : elB gr y = true) (ha : elB gr a = true) (c z : Int) :
    (smX gr x y c z == a) = (powE gr x z == mulL gr [a, powE gr y c]) := by
  rw [Bool.eq_iff_iff, beq_iff_eq, beq_iff_eq, smX_eq, mulT]
  constructor
  · intro h; rw [← h]; exact (mul_cancel' hg (elT_pow hg hx z) hy c).symm
  · intro h; rw [h]; exact mul_cancel hg ha hy c
theorem own_sm {gr : GroupD} (hg : OkG gr) {x y w e s : Int} (hx : elB gr x = true) (hy : powE gr x s = y) : smX gr x y e ((w + e * s) % gr.q) = powE gr x w := by
  rw [smX_eq, sigma_eq hg hx, hy]
  exact mul_cancel hg (elT_pow hg hx w) (by rw [← hy]; exact elT_pow hg hx s) e
-- extraction
noncomputable def exX (q c z e y : Int) : Int := (z - y) % q * invQ ((c - e) % q) q % q
theorem mul_right_cancel {gr : GroupD} (hg : OkG gr) {a b y : Int} (ha : elB gr a = true) (hb : elB gr b = true) (hy : elB gr y = true) (h : a * y % gr.p = b * y % gr.p) : a = b := by
  have h1 := mul_cancel hg ha hy 1
  have h2 := mul_cancel hg hb hy 1
  rw [powE_single hg hy] at h1 h2
  rw [← h1, h, h2]
theorem slope {gr : GroupD} (hg : OkG gr) {x y c z e v : Int} (hx : elB gr x = true) (hy : elB gr y = true) (hc : expB gr c = true) (he : expB gr e = true) (hne : c ≠ e) (h : smX gr x y c z = smX gr x y e v) :
    powE gr x (exX gr.q c z e v) = y := by
  have hq := hg.q1
  obtain ⟨c1, c2⟩ := expB_bd hc
  obtain ⟨e1, e2⟩ := expB_bd he
  have hd : 0 < (c - e) % gr.q ∧ (c - e) % gr.q < gr.q := by
    refine ⟨?_, Int.emod_lt_of_pos _ (by omega)⟩
    have h0 := Int.emod_nonneg (c - e) (show gr.q ≠ 0 by omega)
    rcases Int.lt_or_eq_of_le h0 with h1 | h1
    · exact h1
    · exfalso
      have := Int.dvd_of_emod_eq_zero h1.symm
      obtain ⟨t, ht⟩ := this
      have ht0 : t = 0 := by
        rcases Int.lt_trichotomy t 0 with q | q | q
        · have := Int.mul_le_mul_of_nonneg_left (show t ≤ -1 by omega) (show 0 ≤ gr.q by omega); omega
        · exact q
        · have := Int.mul_le_mul_of_nonneg_left (show 1 ≤ t by omega) (show 0 ≤ gr.q by omega); omega
      rw [ht0, Int.mul_zero] at ht
      omega
  obtain ⟨_, hi⟩ := invQ_is hg.qp hd.1 hd.2
  have k1 : powE gr x (z - v) = powE gr y (c - e) := by
    rw [smX_eq, smX_eq] at h
    have s1 := mul_cancel' hg (elT_pow hg hx z) hy c
    have s2 := mul_cancel' hg (elT_pow hg hx v) hy e
    refine mul_right_cancel hg (elT_pow hg hx _) (elT_pow hg hy _) (elT_pow hg hx v) ?_
    rw [← powE_add hg hx, Int.sub_add_cancel, ← s1, h]
    rw [show c - e = c + -e by omega, powE_add hg hy, emod_mul_left, emod_mul_left]
    congr 1
    simp only [Int.mul_assoc, Int.mul_comm, Int.mul_left_comm]
  unfold exX
  rw [powE_emod, ← powE_pow hg hx, powE_emod, k1, ← powE_emod gr y (c - e), powE_pow hg hy, ← powE_emod, hi, powE_single hg hy]
end Go.Proofs.Ytacpnphfopmofaa
namespace Go.Proofs.Ytacpnphfopmofaa
open Go.RowKit
set_option linter.unusedSimpArgs false
set_option linter.unusedVariables false

structure TrD where
  c : Int
  e : Int
  z : Int
deriving DecidableEq, Inhabited
theorem TrD.ext' {a b : TrD} (h1 : a.c = b.c) (h2 : a.e = b.e) (h3 : a.z = b.z) : a = b := by
  cases a; cases b; simp_all
def cmpT (x y : Int) : Int := if x < y then -1 else if y < x then 1 else 0
theorem cmpT_lt {x y : Int} : cmpT x y < 0 ↔ x < y := by unfold cmpT; split <;> (try split) <;> omega
theorem cmpT_eq {x y : Int} : cmpT x y = 0 ↔ x = y := by unfold cmpT; split <;> (try split) <;> omega
def trF (a b : TrD) : Int := if cmpT a.c b.c = 0 then (if cmpT a.e b.e = 0 then cmpT a.z b.z else cmpT a.e b.e) else cmpT a.c b.c
def trLt (a b : TrD) : Bool := decide (trF a b < 0)
theorem trLt_iff {a b : TrD} : trLt a b = true ↔ a.c < b.c ∨ (a.c = b.c ∧ (a.e < b.e ∨ (a.e = b.e ∧ a.z < b.z))) := by
  unfold trLt trF
  rw [decide_eq_true_iff]
  by_cases h1 : cmpT a.c b.c = 0
  · rw [if_pos h1]
    have e1 := cmpT_eq.1 h1
    by_cases h2 : cmpT a.e b.e = 0
    · rw [if_pos h2]
      have e2 := cmpT_eq.1 h2
      rw [cmpT_lt]; omega
    · rw [if_neg h2, cmpT_lt]
      have e2 : ¬ a.e = b.e := fun h => h2 (cmpT_eq.2 h)
      omega
  · rw [if_neg h1, cmpT_lt]
    have e1 : ¬ a.c = b.c := fun h => h1 (cmpT_eq.2 h)
    omega
theorem trLt_false {a b : TrD} : trLt a b = false ↔ ¬ (a.c < b.c ∨ (a.c = b.c ∧ (a.e < b.e ∨ (a.e = b.e ∧ a.z < b.z)))) := by
  rw [← Bool.not_eq_true, trLt_iff]
theorem tr_irrefl (a : TrD) : trLt a a = false := by rw [trLt_false]; omega
theorem tr_trans {a b c : TrD} (h1 : trLt a b = true) (h2 : trLt b c = true) : trLt a c = true := by rw [trLt_iff] at *; omega
theorem tr_ntrans {a b c : TrD} (h1 : trLt a b = false) (h2 : trLt b c = false) : trLt a c = false := by rw [trLt_false] at *; omega
theorem tr_anti {a b : TrD} (h1 : trLt a b = false) (h2 : trLt b a = false) : a = b := by
  rw [trLt_false] at *
  exact TrD.ext' (by omega) (by omega) (by omega)
theorem tr_asymm {a b : TrD} (h1 : trLt a b = true) : trLt b a = false := by rw [trLt_iff] at h1; rw [trLt_false]; omega
/-- the sorted list -/
def trS (l : List TrD) : List TrD := l.mergeSort fun x y => !trLt y x
def TrSorted (l : List TrD) : Prop := l.Pairwise fun x y => trLt y x = false
theorem trS_sorted (l : List TrD) : TrSorted (trS l) := by
  have h := List.pairwise_mergeSort (le := fun x y => !trLt y x) (fun a b c h1 h2 => by
    simp only [Bool.not_eq_true'] at *
    exact tr_ntrans h2 h1) (fun a b => by
    simp only [Bool.or_eq_true, Bool.not_eq_true']
    cases h : trLt b a with
    | false => exact .inl rfl
    | true => exact .inr (tr_asymm h)) l
  exact h.imp fun h => by simpa using h
theorem trS_perm (l : List TrD) : (trS l).Perm l := List.mergeSort_perm _ _
theorem sorted_eq {l l' : List TrD} (h : l.Perm l') (h1 : TrSorted l) (h2 : TrSorted l') : l = l' :=
  List.Perm.eq_of_pairwise (le := fun x y => trLt y x = false) (fun a b _ _ k1 k2 => tr_anti k2 k1) h1 h2 h
theorem trS_unique {l l' : List TrD} (h : l'.Perm l) (hs : TrSorted l') : l' = trS l := sorted_eq (h.trans (trS_perm l).symm) hs (trS_sorted l)
theorem trS_congr {l l' : List TrD} (h : l.Perm l') : trS l = trS l' := trS_unique ((trS_perm l).trans h) (trS_sorted l)
theorem trS_len (l : List TrD) : (trS l).length = l.length := (trS_perm l).length_eq
/-- one transcript put into its place -/
theorem ins_perm (l : List TrD) (t : TrD) (k : Nat) : (l.take k ++ t :: l.drop k).Perm (l ++ [t]) := by
  have h1 : (l.take k ++ t :: l.drop k).Perm (t :: (l.take k ++ l.drop k)) := List.perm_middle
  rw [List.take_append_drop] at h1
  exact h1.trans (List.perm_append_singleton t l).symm
theorem ins_sorted {l : List TrD} {t : TrD} {k : Nat} (hs : TrSorted l) (h1 : ∀ x ∈ l.drop k, trLt t x = true) (h2 : k = 0 ∨ ∃ h : k - 1 < l.length, trLt t l[k - 1] = false) : TrSorted (l.take k ++ t :: l.drop k) := by
  have hsp : TrSorted (l.take k ++ l.drop k) := by rw [List.take_append_drop]; exact hs
  unfold TrSorted at *
  rw [List.pairwise_append] at hsp ⊢
  obtain ⟨p1, p2, p3⟩ := hsp
  have ht : ∀ x ∈ l.take k, trLt t x = false := by
    intro x hx
    rcases h2 with h2 | ⟨h, h2⟩
    · subst h2; simp at hx
    · obtain ⟨i, hi, rfl⟩ := List.getElem_of_mem hx
      rw [List.length_take] at hi
      rw [List.getElem_take]
      by_cases e : i = k - 1
      · subst e; exact h2
      · have hp := List.pairwise_iff_getElem.1 hs i (k - 1) (by omega) h (by omega)
        exact tr_ntrans h2 hp
  refine ⟨p1, ?_, ?_⟩
  · rw [List.pairwise_cons]
    exact ⟨fun x hx => tr_asymm (h1 x hx), p2⟩
  · intro a ha b hb
    rcases List.mem_cons.1 hb with rfl | hb
    · exact ht a ha
    · exact p3 a ha b hb
/-- the real transcripts of coin n, challenges below m -/
def rtR (gr : GroupD) (b x : Int) (n : Nat) : Nat → List TrD
  | 0 => []
  | m + 1 => rtR gr b x n m ++ [⟨powE gr b n, m, ((n : Int) + (m : Int) * x) % gr.q⟩]
def rtL (gr : GroupD) (b x : Int) (Q : Nat) : Nat → List TrD
  | 0 => []
  | n + 1 => rtL gr b x Q n ++ rtR gr b x n Q
/-- the simulated transcripts of response n -/
def stR (gr : GroupD) (b y : Int) (n : Nat) : Nat → List TrD
  | 0 => []
  | m + 1 => stR gr b y n m ++ [⟨smX gr b y m n, m, n⟩]
def stL (gr : GroupD) (b y : Int) (Q : Nat) : Nat → List TrD
  | 0 => []
  | n + 1 => stL gr b y Q n ++ stR gr b y n Q
theorem rtR_len (gr : GroupD) (b x : Int) (n m : Nat) : (rtR gr b x n m).length = m := by
  induction m with
  | zero => rfl
  | succ m ih => unfold rtR; rw [List.length_append, ih]; rfl
theorem rtL_len (gr : GroupD) (b x : Int) (Q n : Nat) : (rtL gr b x Q n).length = n * Q := by
  induction n with
  | zero => simp [rtL]
  | succ n ih => unfold rtL; rw [List.length_append, ih, rtR_len, Nat.succ_mul]
theorem mem_rtR {gr : GroupD} {b x : Int} {n : Nat} {t : TrD} : ∀ m, t ∈ rtR gr b x n m ↔ ∃ j : Nat, j < m ∧ t = ⟨powE gr b n, j, ((n : Int) + (j : Int) * x) % gr.q⟩ := by
  intro m
  induction m with
  | zero => simp [rtR]
  | succ m ih =>
    unfold rtR
    rw [List.mem_append, ih, List.mem_singleton]
    constructor
    · rintro (⟨j, hj, e⟩ | e)
      · exact ⟨j, by omega, e⟩
      · exact ⟨m, by omega, e⟩
    · rintro ⟨j, hj, e⟩
      by_cases h : j = m
      · subst h; exact .inr e
      · exact .inl ⟨j, by omega, e⟩
theorem mem_rtL {gr : GroupD} {b x : Int} {Q : Nat} {t : TrD} : ∀ n, t ∈ rtL gr b x Q n ↔ ∃ i : Nat, i < n ∧ ∃ j : Nat, j < Q ∧ t = ⟨powE gr b i, j, ((i : Int) + (j : Int) * x) % gr.q⟩ := by
  intro n
  induction n with
  | zero => simp [rtL]
  | succ n ih =>
    unfold rtL
    rw [List.mem_append, ih, mem_rtR]
    constructor
    · rintro (⟨i, hi, e⟩ | e)
      · exact ⟨i, by omega, e⟩
      · exact ⟨n, by omega, e⟩
    · rintro ⟨i, hi, e⟩
      by_cases h : i = n
      · subst h; exact .inr e
      · exact .inl ⟨i, by omega, e⟩
theorem mem_stR {gr : GroupD} {b y : Int} {n : Nat} {t : TrD} : ∀ m, t ∈ stR gr b y n m ↔ ∃ j : Nat, j < m ∧ t = ⟨smX gr b y j n, j, n⟩ := by
  intro m
  induction m with
  | zero => simp [stR]
  | succ m ih =>
    unfold stR
    rw [List.mem_append, ih, List.mem_singleton]
    constructor
    · rintro (⟨j, hj, e⟩ | e)
      · exact ⟨j, by omega, e⟩
      · exact ⟨m, by omega, e⟩
    · rintro ⟨j, hj, e⟩
      by_cases h : j = m
      · subst h; exact .inr e
      · exact .inl ⟨j, by omega, e⟩
theorem mem_stL {gr : GroupD} {b y : Int} {Q : Nat} {t : TrD} : ∀ n, t ∈ stL gr b y Q n ↔ ∃ i : Nat, i < n ∧ ∃ j : Nat, j < Q ∧ t = ⟨smX gr b y j i, j, i⟩ := by
  intro n
  induction n with
  | zero => simp [stL]
  | succ n ih =>
    unfold stL
    rw [List.mem_append, ih, mem_stR]
    constructor
    · rintro (⟨i, hi, e⟩ | e)
      · exact ⟨i, by omega, e⟩
      · exact ⟨n, by omega, e⟩
    · rintro ⟨i, hi, e⟩
      by_cases h : i = n
      · subst h; exact .inr e
      · exact .inl ⟨i, by omega, e⟩
/-- every real transcript is a simulated one, and there are as many -/
theorem real_sub {gr : GroupD} (hg : OkG gr) {b x : Int} {Q : Nat} (hQ : (Q : Int) = gr.q) (hb : elB gr b = true) {t : TrD} (ht : t ∈ rtL gr b x Q Q) : t ∈ stL gr b (powE gr b x) Q Q := by
  obtain ⟨i, hi, j, hj, rfl⟩ := (mem_rtL Q).1 ht
  have hq := hg.q1
  have h0 : 0 ≤ ((i : Int) + (j : Int) * x) % gr.q := Int.emod_nonneg _ (by omega)
  have h1 : ((i : Int) + (j : Int) * x) % gr.q < gr.q := Int.emod_lt_of_pos _ (by omega)
  obtain ⟨r, hr⟩ := Int.eq_ofNat_of_zero_le h0
  refine (mem_stL Q).2 ⟨r, by omega, j, hj, ?_⟩
  have e := own_sm hg hb (rfl : powE gr b x = powE gr b x) (w := (i : Int)) (e := (j : Int)) (s := x)
  rw [hr] at e ⊢
  exact TrD.ext' e.symm rfl rfl
theorem rtR_nodup (gr : GroupD) (b x : Int) (n m : Nat) : (rtR gr b x n m).Nodup := by
  induction m with
  | zero => simp [rtR]
  | succ m ih =>
    unfold rtR
    rw [List.nodup_append]
    refine ⟨ih, by simp, fun a ha c hc e => ?_⟩
    subst e
    rw [List.mem_singleton] at hc
    obtain ⟨j, hj, e2⟩ := (mem_rtR m).1 ha
    rw [e2] at hc
    have h2 : ((j : Int)) = (m : Int) := congrArg TrD.e hc
    omega
theorem mod_same {q a b c : Int} (hq : 0 < q) (ha : 0 ≤ a) (ha2 : a < q) (hb : 0 ≤ b) (hb2 : b < q) (h : (a + c) % q = (b + c) % q) : a = b := by
  have h1 : (a + c - c) % q = (b + c - c) % q := by rw [Int.sub_emod, h, ← Int.sub_emod]
  rw [Int.add_sub_cancel, Int.add_sub_cancel, Int.emod_eq_of_lt ha ha2, Int.emod_eq_of_lt hb hb2] at h1
  exact h1
theorem rtL_nodup {gr : GroupD} (hg : OkG gr) (b x : Int) {Q : Nat} (hQ : (Q : Int) = gr.q) (n : Nat) (hn : n ≤ Q) : (rtL gr b x Q n).Nodup := by
  induction n with
  | zero => simp [rtL]
  | succ n ih =>
    unfold rtL
    rw [List.nodup_append]
    refine ⟨ih (by omega), rtR_nodup _ _ _ _ _, fun a ha c hc e => ?_⟩
    subst e
    obtain ⟨i, hi, j, hj, e2⟩ := (mem_rtL n).1 ha
    obtain ⟨k, hk, e3⟩ := (mem_rtR Q).1 hc
    rw [e2] at e3
    have h2 : ((j : Int)) = (k : Int) := congrArg TrD.e e3
    have h3 : ((i : Int) + (j : Int) * x) % gr.q = ((n : Int) + (k : Int) * x) % gr.q := congrArg TrD.z e3
    rw [← h2] at h3
    have := mod_same (by have := hg.q1; omega) (by omega) (by omega) (by omega) (by omega) h3
    omega
theorem perm_of_sub : ∀ {l m : List TrD}, l.Nodup → (∀ x ∈ l, x ∈ m) → m.length ≤ l.length → l.Perm m := by
  intro l
  induction l with
  | nil => intro m _ _ h; have : m = [] := List.eq_nil_of_length_eq_zero (by simpa using h); subst this; exact List.Perm.refl _
  | cons a l ih =>
    intro m hn hs hl
    rw [List.nodup_cons] at hn
    have ha := hs a (by simp)
    have hp := List.perm_cons_erase ha
    refine (List.Perm.cons a (ih hn.2 (fun x hx => ?_) ?_)).trans hp.symm
    · exact (List.mem_erase_of_ne (fun e => hn.1 (by rw [← e]; exact hx))).2 (hs x (by simp [hx]))
    · rw [List.length_erase_of_mem ha]; simp at hl; omega
/-- a response that answers a challenge -/
def acP (gr : GroupD) (e : EqualLogD) (a b : Int) (c z : Nat) : Bool := (powE gr e.g1 z == mulL gr [a, powE gr e.y1 c]) && (powE gr e.g2 z == mulL gr [b, powE gr e.y2 c])
def acR (gr : GroupD) (e : EqualLogD) (a b : Int) (c : Nat) : Nat → Nat
  | 0 => 0
  | m + 1 => acR gr e a b c m + (if acP gr e a b c m = true then 1 else 0)
def acS (gr : GroupD) (e : EqualLogD) (a b : Int) (Q : Nat) : Nat → Nat
  | 0 => 0
  | n + 1 => acS gr e a b Q n + acR gr e a b n Q
theorem acR_none {gr : GroupD} {e : EqualLogD} {a b : Int} {c : Nat} : ∀ m, (∀ z, z < m → acP gr e a b c z = false) → acR gr e a b c m = 0 := by
  intro m
  induction m with
  | zero => intro _; rfl
  | succ m ih => intro h; unfold acR; rw [ih fun z hz => h z (by omega), h m (by omega)]; rfl
theorem acR_has {gr : GroupD} {e : EqualLogD} {a b : Int} {c : Nat} : ∀ m, 0 < acR gr e a b c m → ∃ z, z < m ∧ acP gr e a b c z = true := by
  intro m
  induction m with
  | zero => intro h; exact absurd h (Nat.lt_irrefl 0)
  | succ m ih =>
    intro h
    unfold acR at h
    by_cases hp : acP gr e a b c m = true
    · exact ⟨m, by omega, hp⟩
    · rw [if_neg hp] at h
      obtain ⟨z, hz, hz2⟩ := ih (by omega)
      exact ⟨z, by omega, hz2⟩
theorem acS_le (gr : GroupD) (e : EqualLogD) (a b : Int) (Q n : Nat) : acS gr e a b Q n ≤ n * Q := by
  induction n with
  | zero => exact Nat.zero_le _
  | succ n ih =>
    have h : ∀ m, acR gr e a b n m ≤ m := fun m => by
      induction m with
      | zero => exact Nat.le_refl _
      | succ m ih2 => unfold acR; split <;> omega
    have := h Q
    unfold acS
    rw [Nat.succ_mul]
    omega
theorem pow_inj1 {gr : GroupD} (hg : OkG gr) {x : Int} (hx : elB gr x = true) (h1 : x ≠ 1) {a b : Int} (ha : 0 ≤ a ∧ a < gr.q) (hb : 0 ≤ b ∧ b < gr.q) (h : powE gr x a = powE gr x b) : a = b := by
  have h0 : powE gr x (a - b) = 1 := by
    have e : powE gr x (a + -b) = 1 := by
      rw [powE_add hg hx, h]; exact powE_neg hg hx b
    rwa [← Int.sub_eq_add_neg] at e
  have hq := hg.q1
  by_cases hz : (a - b) % gr.q = 0
  · obtain ⟨t, ht⟩ := Int.dvd_of_emod_eq_zero hz
    rcases Int.lt_trichotomy t 0 with h3 | h3 | h3
    · have : gr.q * t ≤ gr.q * (-1) := Int.mul_le_mul_of_nonneg_left (by omega) (by omega)
      omega
    · subst h3; simp at ht; omega
    · have : gr.q * 1 ≤ gr.q * t := Int.mul_le_mul_of_nonneg_left (by omega) (by omega)
      omega
  · exfalso
    have n0 := Int.emod_nonneg (a - b) (show gr.q ≠ 0 by omega)
    have n1 := Int.emod_lt_of_pos (a - b) (show 0 < gr.q by omega)
    obtain ⟨z, hz1⟩ := inverse_is hg.qp (show 0 < (a - b) % gr.q by omega) n1
    have e : powE gr x ((a - b) % gr.q * z % gr.q) = 1 := by
      rw [powE_emod, ← powE_pow hg hx, powE_emod, h0]
      show (1 : Int) ^ _ % gr.p = 1
      have hp := hg.p1
      rw [Int.one_pow, Int.emod_eq_of_lt (by omega) (by omega)]
    rw [hz1, powE_single hg hx] at e
    exact h1 e
theorem acP_one {gr : GroupD} (hg : OkG gr) {e : EqualLogD} (he : elB gr e.g1 = true) (h1 : e.g1 ≠ 1) {a b : Int} {c z y : Nat} (hz : (z : Int) < gr.q) (hy : (y : Int) < gr.q) (k1 : acP gr e a b c z = true) (k2 : acP gr e a b c y = true) : z = y := by
  unfold acP at k1 k2
  simp only [Bool.and_eq_true, beq_iff_eq] at k1 k2
  have := pow_inj1 hg he h1 (a := (z : Int)) (b := (y : Int)) ⟨by omega, hz⟩ ⟨by omega, hy⟩ (by rw [k1.1, k2.1])
  omega
theorem acR_le {gr : GroupD} (hg : OkG gr) {e : EqualLogD} (he : elB gr e.g1 = true) (h1 : e.g1 ≠ 1) (a b : Int) (c : Nat) : ∀ m : Nat, (m : Int) ≤ gr.q → acR gr e a b c m ≤ 1 := by
  intro m
  induction m with
  | zero => intro _; exact Nat.zero_le _
  | succ m ih =>
    intro hm
    unfold acR
    by_cases hp : acP gr e a b c m = true
    · rw [if_pos hp, acR_none m fun z hz => ?_]
      · exact Nat.le_refl _
      · cases hq : acP gr e a b c z with
        | false => rfl
        | true =>
          have := acP_one hg he h1 (by omega) (by omega) hq hp
          omega
    · rw [if_neg hp]; exact ih (by omega)
theorem acR_more {gr : GroupD} {e : EqualLogD} {a b : Int} {c z : Nat} : ∀ m, z < m → acP gr e a b c z = true → 0 < acR gr e a b c m := by
  intro m
  induction m with
  | zero => intro h; omega
  | succ m ih =>
    intro h hp
    unfold acR
    by_cases e2 : z = m
    · subst e2; rw [if_pos hp]; omega
    · have := ih (by omega) hp; omega
/-- one at the most: a walk that leaves at the first one counts the same -/
theorem acR_found {gr : GroupD} (hg : OkG gr) {e : EqualLogD} (he : elB gr e.g1 = true) (h1 : e.g1 ≠ 1) {a b : Int} {c z Q : Nat} (hQ : (Q : Int) = gr.q) (hz : z < Q) (hp : acP gr e a b c z = true) : acR gr e a b c Q = 1 := by
  have := acR_le hg he h1 a b c Q (by omega)
  have := acR_more Q hz hp
  omega
theorem acS_pos {gr : GroupD} {e : EqualLogD} {a b : Int} {Q : Nat} : ∀ n, 0 < acS gr e a b Q n → ∃ c, c < n ∧ 0 < acR gr e a b c Q := by
  intro n
  induction n with
  | zero => intro h; exact absurd h (Nat.lt_irrefl 0)
  | succ n ih =>
    intro h
    unfold acS at h
    by_cases hp : 0 < acR gr e a b n Q
    · exact ⟨n, by omega, hp⟩
    · obtain ⟨c, hc, h2⟩ := ih (by omega)
      exact ⟨c, by omega, h2⟩
theorem acS_two {gr : GroupD} (hg : OkG gr) {e : EqualLogD} (he : elB gr e.g1 = true) (h1 : e.g1 ≠ 1) {a b : Int} {Q : Nat} (hQ : (Q : Int) = gr.q) : ∀ n, 1 < acS gr e a b Q n → ∃ c d, c < d ∧ d < n ∧ 0 < acR gr e a b c Q ∧ 0 < acR gr e a b d Q := by
  intro n
  induction n with
  | zero => intro h; exact absurd h (by unfold acS; omega)
  | succ n ih =>
    intro h
    unfold acS at h
    by_cases hs : 1 < acS gr e a b Q n
    · obtain ⟨c, d, k1, k2, k3⟩ := ih hs
      exact ⟨c, d, k1, by omega, k3⟩
    · have := acR_le hg he h1 a b n Q (by omega)
      obtain ⟨c, hc, h2⟩ := acS_pos n (by omega : 0 < acS gr e a b Q n)
      exact ⟨c, n, hc, by omega, h2, by omega⟩
/-- two challenges that can be answered make the statement true -/
theorem ac_true {gr : GroupD} (hg : OkG gr) {e : EqualLogD} (he : eqEl gr e = true) (h1 : e.g1 ≠ 1) {a b : Int} (ha : elB gr a = true) (hb : elB gr b = true) {Q : Nat} (hQ : (Q : Int) = gr.q) (h : 1 < acS gr e a b Q Q) : ∃ k : Nat, k < Q ∧ eqTrue gr e k = true := by
  obtain ⟨g1, y1, g2, y2⟩ := eqEl_parts he
  obtain ⟨c, d, k1, k2, k3, k4⟩ := acS_two hg g1 h1 hQ Q h
  obtain ⟨z, hz, hz2⟩ := acR_has Q k3
  obtain ⟨v, hv, hv2⟩ := acR_has Q k4
  have hq := hg.q1
  have ce : expB gr (c : Int) = true := by unfold expB; rw [decide_eq_true_iff]; omega
  have de : expB gr (d : Int) = true := by unfold expB; rw [decide_eq_true_iff]; omega
  unfold acP at hz2 hv2
  rw [← sm_iff hg g1 y1 ha, ← sm_iff hg g2 y2 hb] at hz2 hv2
  simp only [Bool.and_eq_true, beq_iff_eq] at hz2 hv2
  have hne : (c : Int) ≠ (d : Int) := by omega
  have s1 := slope hg g1 y1 ce de hne (z := z) (v := v) (by rw [hz2.1, hv2.1])
  have s2 := slope hg g2 y2 ce de hne (z := z) (v := v) (by rw [hz2.2, hv2.2])
  have n0 : 0 ≤ exX gr.q c z d v := Int.emod_nonneg _ (by omega)
  have n1 : exX gr.q c z d v < gr.q := Int.emod_lt_of_pos _ (by omega)
  obtain ⟨k, hk⟩ := Int.eq_ofNat_of_zero_le n0
  refine ⟨k, by omega, ?_⟩
  unfold eqTrue
  rw [← hk, Bool.and_eq_true, beq_iff_eq, beq_iff_eq]
  exact ⟨s1, s2⟩
end Go.Proofs.Ytacpnphfopmofaa
namespace Go.Proofs.Ytacpnphfopmofaa
open Go.RowKit
set_option linter.unusedSimpArgs false
set_option linter.unusedVariables false

/-- the value reads as bytes -/
def Bytes (w : World) (v : Value) : Prop :=
  ∃ a n c, v = .slice a n c ∧ n ≤ c ∧ c ≤ maxLen ∧ (n = 0 ∨ ∃ b o, a = some ⟨b, o, none⟩ ∧ ∀ i, i < n → ∃ x : Int, w.cell? ⟨b, o + i, none⟩ = some (.int .u8 x) ∧ 0 ≤ x ∧ x ≤ 255)
theorem Bytes.below {w w' : World} {v : Value} (h : Bytes w v) (hb : Below w.heap.size w w') : Bytes w' v := by
  obtain ⟨a, n, c, e, h1, h2, h3⟩ := h
  refine ⟨a, n, c, e, h1, h2, ?_⟩
  rcases h3 with h3 | ⟨b, o, h3, hc⟩
  · exact .inl h3
  · refine .inr ⟨b, o, h3, fun i hi => ?_⟩
    obtain ⟨x, h4, h5⟩ := hc i hi
    exact ⟨x, box_at h4 hb, h5⟩
theorem BoxN.drewN {w : World} {b : Nat} {t : TypeId} {cs : List Value} (h : BoxN w b t cs) (n : Nat) : BoxN (w.drewN n) b t cs := h.below (below_drewN (Below.refl _ _) n)
theorem BoxN.drew {w : World} {b : Nat} {t : TypeId} {cs : List Value} (h : BoxN w b t cs) : BoxN w.drew b t cs := h.below (Below.refl _ _).drew
theorem Within.drewN {lo hi : Nat} {w w' : World} (h : Within lo hi w w') (n : Nat) : Within lo hi w (w'.drewN n) := h.trans (Within.of_below (below_drewN (Below.refl _ _) n))
theorem Within.drew {lo hi : Nat} {w w' : World} (h : Within lo hi w w') : Within lo hi w w'.drew := h.trans (Within.of_below (Below.refl _ _).drew)
/-- what holds in every world that differs from w in block g alone (and in new blocks) -/
def Apart (g : Nat) (w : World) (P : World → Prop) : Prop := ∀ w', Within g (g + 1) w w' → P w'
section
variable {g : Nat} {w w' w0 : World} {P : World → Prop}
theorem Apart.here (h : Apart g w P) : P w := h w (Within.refl _ _ _)
theorem Apart.step (h : Apart g w P) (hw : Within g (g + 1) w w') : Apart g w' P := fun u hu => h u (hw.trans hu)
theorem Within.belowOf (hw : Within g (g + 1) w w') (h0 : Below w0.heap.size w0 w) (hg : w0.heap.size ≤ g) : Below w0.heap.size w0 w' :=
  h0.trans (hw.below h0.size hg)
theorem Apart.of_own {δ : Type} {K : Kind δ} {lo hi : Nat} {v : Value} {d : δ} (h : K.own w lo hi v d) (hd : hi ≤ g ∨ g < lo) : Apart g w (fun u => K.rd u v d) :=
  fun u hu => K.own_rd (K.kept h hu (by omega))
theorem Apart.of_ownI {B : Nat} {v : Value} {l : List Int} (h : OwnI w B v l) (hd : g < B) : Apart g w (fun u => Ints u v l) := fun u hu => (OwnI.ints (InI.kept (InI.of_own h) hu (.inr (by omega))).1)
end
/-- the cursor in block g: its bytes are memory of the world w0; its place is at most n -/
def Cur (w0 w : World) (g : Nat) (n : Int) : Prop :=
  w0.heap.size ≤ g ∧ ∃ v p s, BoxN w g 85 [v, .int .i64 p, .int .u64 s] ∧ Bytes w0 v ∧ 0 ≤ p ∧ p ≤ n
section
variable {g : Nat} {w w' w0 : World} {n : Int}
theorem Cur.ge (h : Cur w0 w g n) : w0.heap.size ≤ g := h.1
theorem Cur.lt (h : Cur w0 w g n) : g < w.heap.size := by obtain ⟨_, v, p, s, hB, _⟩ := h; exact hB.lt
theorem Cur.keep (h : Cur w0 w g n) (hb : Below w.heap.size w w') : Cur w0 w' g n := by
  obtain ⟨h1, v, p, s, hB, h2⟩ := h; exact ⟨h1, v, p, s, hB.below hb, h2⟩
theorem Cur.mono {n' : Int} (h : Cur w0 w g n) (hn : n ≤ n') : Cur w0 w g n' := by
  obtain ⟨h1, v, p, s, hB, h2, h3, h4⟩ := h; exact ⟨h1, v, p, s, hB, h2, h3, by omega⟩
theorem Cur.kept {lo hi : Nat} (h : Cur w0 w g n) (hw : Within lo hi w w') (hd : g < lo ∨ hi ≤ g) : Cur w0 w' g n := by
  obtain ⟨h1, v, p, s, hB, h2⟩ := h; exact ⟨h1, v, p, s, hB.kept hw hd, h2⟩
theorem Cur.new (w : World) {v : Value} (h : Bytes w v) : Cur w (w.alloc (.cells #[v, .int .i64 0, .int .u64 0] 85)) w.heap.size 0 :=
  ⟨Nat.le_refl _, v, 0, 0, BoxN.new w [v, .int .i64 0, .int .u64 0] _, h, by omega, by omega⟩
end
theorem next_val (z : Int) : 0 ≤ wrap64 (bits .and .u64 (IntKind.u64.wrap z / 1099511627776) 255) ∧ wrap64 (bits .and .u64 (IntKind.u64.wrap z / 1099511627776) 255) ≤ 255 := by
  have h0 : 0 ≤ IntKind.u64.wrap z / 1099511627776 ∧ IntKind.u64.wrap z / 1099511627776 < 2 ^ 64 := by rw [IntKind.wrap_u64]; omega
  have h := bits_mask .u64 64 (by decide) wraps_u64 8 (by decide) _ h0.1 h0.2
  have e1 : ((2 : Int) ^ 8 - 1) = 255 := by decide
  rw [e1] at h
  rw [h]
  have e2 : ((2 : Int) ^ 8) = 256 := by decide
  rw [e2]
  have e3 : wrap64 (IntKind.u64.wrap z / 1099511627776 % 256) = IntKind.u64.wrap z / 1099511627776 % 256 := by unfold wrap64; omega
  rw [e3]; omega
set_option maxRecDepth 100000 in
set_option maxHeartbeats 1000000 in
theorem spec_next (w0 : World) (g : Nat) (n : Int) (w : World) (h : Cur w0 w g n) (hb : Below w0.heap.size w0 w) (hn : n ≤ 4000000000000000) :
    Calls Try.prog 145 #[.pointer (some ⟨g, 0, none⟩)] w fun e w' => (∃ x : Int, e = .returned (.int .i64 x) ∧ 0 ≤ x ∧ x ≤ 255) ∧ Cur w0 w' g (n + 1) ∧ Within g (g + 1) w w' := by
  obtain ⟨hg, v, p, s, hB, ⟨a, m, c, rfl, k1, k2, hv⟩, hp0, hpn⟩ := h
  have HY : Hid (Bytes w0 (.slice a m c)) := ⟨a, m, c, rfl, k1, k2, hv⟩
  unfold maxLen at k2
  have HB := Lib.hid hB
  have c0 := hB.cell (i := 0) rfl
  have c1 := hB.cell (i := 1) rfl
  have c2 := hB.cell (i := 2) rfl
  have f1 := hB.frozen 1
  have f2 := hB.frozen 2
  clear hB
  by_cases hlt : p < (m : Int)
  · obtain ⟨b, o, rfl, hcx⟩ : ∃ b o, a = some ⟨b, o, none⟩ ∧ ∀ i, i < m → ∃ x : Int, w0.cell? ⟨b, o + i, none⟩ = some (.int .u8 x) ∧ 0 ≤ x ∧ x ≤ 255 := by
      rcases hv with hv | hv
      · omega
      · exact hv
    obtain ⟨k, rfl⟩ := Int.eq_ofNat_of_zero_le hp0
    obtain ⟨x, hx, hx0, hx1⟩ := hcx k (by omega)
    replace hx := box_at hx hb
    have ew : IntKind.i64.wrap ((k : Int) + 1) = (k : Int) + 1 := IntWalk.i64_in _ (by omega)
    clear hcx hv
    go_enter Try.func145, Try.ntmps145
    go_wp2
    go_quiet (fail)
    go_wp2
    go_quiet (fail)
    go_wp2
    go_quiet (fail)
    go_wp2
    go_ret
    exact ⟨⟨x, rfl, hx0, hx1⟩, ⟨hg, _, _, _, (((HB.out.drewN _).set 1 _).set 2 _).drewN _, HY.out, by omega, by omega⟩, by (repeat (first | exact Within.refl _ _ _ | assumption | refine Within.drewN ?_ _ | refine Within.drew ?_ | refine Within.setCell ?_ (by omega) (by omega) _ _ | refine Within.allocR ?_ _))⟩
  · obtain ⟨k, rfl⟩ := Int.eq_ofNat_of_zero_le hp0
    have ew : IntKind.i64.wrap ((k : Int) + 1) = (k : Int) + 1 := IntWalk.i64_in _ (by omega)
    clear hv
    go_enter Try.func145, Try.ntmps145
    go_wp2
    go_quiet (fail)
    go_wp2
    go_quiet (fail)
    go_wp2
    go_ret
    exact ⟨⟨_, rfl, (next_val _).1, (next_val _).2⟩, ⟨hg, _, _, _, (((HB.out.drewN _).set 1 _).set 2 _).drewN _, HY.out, by omega, by omega⟩, by (repeat (first | exact Within.refl _ _ _ | assumption | refine Within.drewN ?_ _ | refine Within.drew ?_ | refine Within.setCell ?_ (by omega) (by omega) _ _ | refine Within.allocR ?_ _))⟩
theorem emod_le' {a m : Int} (h : 0 ≤ a) (hm : 0 < m) : a % m ≤ a := by
  by_cases hc : a < m
  · rw [Int.emod_eq_of_lt h hc]; omega
  · have := Int.emod_lt_of_pos a hm; omega
set_option maxRecDepth 100000 in
set_option maxHeartbeats 1000000 in
theorem spec_pick (w0 : World) (g : Nat) (n m : Int) (w : World) (h : Cur w0 w g n) (hb : Below w0.heap.size w0 w) (hn : n ≤ 3000000000000000) :
    Calls Try.prog 72 #[.pointer (some ⟨g, 0, none⟩), .int .i64 m] w fun e w' => (∃ x : Int, e = .returned (.int .i64 x) ∧ 0 ≤ x ∧ x ≤ 65535 ∧ (1 ≤ m → x < m) ∧ (m ≤ 1 → x = 0)) ∧ Cur w0 w' g (n + 2) ∧ Within g (g + 1) w w' := by
  have H := Lib.hid h; clear h
  by_cases h1 : m ≤ 1
  · go_enter Try.func72, Try.ntmps72
    go_wp2
    go_ret
    exact ⟨⟨0, rfl, by omega, by omega, by omega, by omega⟩, H.out.mono (by omega), Within.refl _ _ _⟩
  · by_cases h2 : m ≤ 200
    · go_enter Try.func72, Try.ntmps72
      go_wp2_with fail
      refine (spec_next w0 g n _ H.out hb (by omega)).mono ?_
      rintro e w1 ⟨⟨x, rfl, hx0, hx1⟩, hc, hw⟩
      have HC := Lib.hid hc; have HW := Lib.hid hw; clear hc hw
      go_wp2_with fail
      go_ret
      exact ⟨⟨_, rfl, Int.emod_nonneg _ (by omega), by have := Int.emod_lt_of_pos x (show 0 < m by omega); omega, fun _ => Int.emod_lt_of_pos x (by omega), by omega⟩, HC.out.mono (by omega), HW.out⟩
    · go_enter Try.func72, Try.ntmps72
      go_wp2_with fail
      refine (spec_next w0 g n _ H.out hb (by omega)).mono ?_
      rintro e w1 ⟨⟨x, rfl, hx0, hx1⟩, hc, hw⟩
      have HC := Lib.hid hc; have HW := Lib.hid hw; clear hc hw
      go_wp2_with fail
      refine (spec_next w0 g (n + 1) _ HC.out (HW.out.belowOf hb H.out.ge) (by omega)).mono ?_
      rintro e w2 ⟨⟨y, rfl, hy0, hy1⟩, hc2, hw2⟩
      have HC2 := Lib.hid hc2; have HW2 := Lib.hid hw2; clear hc2 hw2
      go_wp2_with fail
      go_ret
      exact ⟨⟨_, rfl, Int.emod_nonneg _ (by omega), by have := emod_le' (a := x * 256 + y) (m := m) (by omega) (by omega); omega, fun _ => Int.emod_lt_of_pos _ (by omega), by omega⟩, HC2.out.mono (by omega), HW.out.trans HW2.out⟩
theorem spec_one (w0 : World) (g : Nat) (n m : Int) (w : World) (h : Cur w0 w g n) (hb : Below w0.heap.size w0 w) (hn : n ≤ 3000000000000000) :
    Calls Try.prog 59 #[.pointer (some ⟨g, 0, none⟩), .int .i64 m] w fun e w' => (∃ x : Bool, e = .returned (.bool x)) ∧ Cur w0 w' g (n + 2) ∧ Within g (g + 1) w w' := by
  have H := Lib.hid h; clear h
  go_enter Try.func59, Try.ntmps59
  go_wp2_with fail
  refine (spec_pick w0 g n m _ H.out hb hn).mono ?_
  rintro e w1 ⟨⟨x, rfl, hx⟩, hc, hw⟩
  have HC := Lib.hid hc; have HW := Lib.hid hw; clear hc hw hx
  go_wp2_with fail
  go_ret
  exact ⟨⟨_, rfl⟩, HC.out, HW.out⟩
set_option maxHeartbeats 1000000 in
theorem spec_among (w0 : World) (g : Nat) (n : Int) (v : Value) (l : List Int) (w : World) (h : Cur w0 w g n) (hb : Below w0.heap.size w0 w) (hn : n ≤ 3000000000000000) (hl : Apart g w (fun u => Ints u v l)) (h0 : 0 < l.length) :
    Calls Try.prog 71 #[.pointer (some ⟨g, 0, none⟩), v] w fun e w' => (∃ x : Int, e = .returned (.int .i64 x) ∧ x ∈ l) ∧ Cur w0 w' g (n + 2) ∧ Within g (g + 1) w w' := by
  have H := Lib.hid h; clear h
  obtain ⟨a, m, c, rfl⟩ := hl.here.shape
  have e := hl.here.len
  obtain ⟨k1, k2⟩ := hl.here.capMax
  unfold maxLen at k2
  have HL := Lib.hid hl; clear hl
  have HE := Lib.hid e; clear e
  have hm : 0 < m := by have := HE.out; omega
  clear h0
  go_enter Try.func71, Try.ntmps71
  go_wp2_with fail
  refine (spec_pick w0 g n _ _ H.out hb hn).mono ?_
  rintro e w1 ⟨⟨x, rfl, hx0, _, hx1, _⟩, hc, hw⟩
  have HC := Lib.hid hc; have HW := Lib.hid hw; clear hc hw
  obtain ⟨k, rfl⟩ := Int.eq_ofNat_of_zero_le hx0
  have hk : (k : Int) < (m : Int) := hx1 (by omega)
  clear hx1
  have hI := (HL.out.step HW.out).here
  obtain ⟨b, o, rfl, hcx⟩ := hI.at_ hm
  have hy := hcx k (by omega)
  have HM : Hid (nth l k ∈ l) := by unfold Hid; rw [nth_eq (by have := HE.out; omega)]; exact List.getElem_mem _
  generalize nth l k = y at hy HM
  clear hcx hI
  go_wp2_with fail
  go_ret
  exact ⟨⟨y, rfl, HM.out⟩, HC.out, HW.out⟩
end Go.Proofs.Ytacpnphfopmofaa
namespace Go.Proofs.Ytacpnphfopmofaa
open Go.RowKit
set_option linter.unusedSimpArgs false
set_option linter.unusedVariables false

theorem OwnI.within {w w' : World} {B g : Nat} {v : Value} {l : List Int} (h : OwnI w B v l) (hw : Within g (g + 1) w w') (hg : g < B) : OwnI w' B v l := (InI.kept (InI.of_own h) hw (.inr (by omega))).1
theorem Within.belowStep {lo hi : Nat} {w w1 w2 : World} (h : Within lo hi w w1) (hb : Below w.heap.size w1 w2) : Within lo hi w w2 :=
  ⟨hb.os.trans h.os, hb.tape.trans h.tape, hb.output.trans h.output, Nat.le_trans h.size hb.size, fun k hk hr => (hb.block k hk).trans (h.block k hk hr)⟩
theorem Cur.belowB {w0 w w' : World} {g B : Nat} {n : Int} (h : Cur w0 w g n) (hb : Below B w w') (hg : g < B) : Cur w0 w' g n := by
  obtain ⟨h1, v, p, s, hB, h2⟩ := h
  exact ⟨h1, v, p, s, (hb.block g hg).trans hB, h2⟩
theorem lit_I64 {l : List Int} (h : (l.all fun x => decide (-9223372036854775808 ≤ x ∧ x ≤ 9223372036854775807)) = true) : AllI64 l := fun x hx => by
  have := List.all_eq_true.1 h x hx; simpa [I64] using this
end Go.Proofs.Ytacpnphfopmofaa
namespace Go.Proofs.Ytacpnphfopmofaa
open Go.RowKit
set_option linter.unusedSimpArgs false
set_option linter.unusedVariables false

theorem powM_self {p e : Int} (hp : 0 < p) (he : 1 ≤ e) : powM p e p = 0 := by
  unfold powM
  obtain ⟨k, hk⟩ : ∃ k, e.toNat = k + 1 := ⟨e.toNat - 1, by omega⟩
  rw [hk, Int.pow_succ, Int.mul_comm]
  exact Int.mul_emod_right _ _
/-- weak bounds of a drawn group -/
def GrB (gr : GroupD) : Prop := (-7 ≤ gr.p ∧ gr.p ≤ 2000000010) ∧ (-7 ≤ gr.q ∧ gr.q ≤ 2000000010) ∧ (-7 ≤ gr.g ∧ gr.g ≤ 2000000010)
set_option maxHeartbeats 1000000 in
theorem spec_gExpW (gr : GroupD) (x e : Int) (w : World) (hp : 1 ≤ gr.p ∧ gr.p ≤ 3000000000) (hq : 1 ≤ gr.q ∧ gr.q ≤ 3000000000) (hx : 0 ≤ x ∧ x ≤ 3000000000) (he : I64 e) :
    Calls Try.prog 57 #[.agg #[.int .i64 gr.p, .int .i64 gr.q, .int .i64 gr.g], .int .i64 x, .int .i64 e] w fun e' w' => (∃ y : Int, e' = .returned (.int .i64 y) ∧ 0 ≤ y ∧ y < gr.p) ∧ Below w.heap.size w w' := by
  obtain ⟨hp1, hp2⟩ := hp
  obtain ⟨hq1, hq2⟩ := hq
  obtain ⟨p, q, g⟩ := gr
  obtain ⟨hx1, hx2⟩ := hx
  simp only [] at hp1 hp2 hq1 hq2
  have HR := Lib.hid (powM_bd (a := x) (e := e % q) (m := p) (by omega))
  have hm0 : 0 ≤ e % q := Int.emod_nonneg _ (by omega)
  have hm1 : e % q < q := Int.emod_lt_of_pos _ (by omega)
  have HE := Lib.hid he; clear he
  go_enter Try.func57, Try.ntmps57
  go_wp2
  go_quiet (first
    | (go_at_call 94; exact Calls.quiet_of_same ((spec_nMod e q _ HE.out (by omega) (by omega)).mono fun e' w' h => ⟨h.1, h.2.symm⟩))
    | (go_at_call 140; exact Calls.quiet_of_same ((spec_nPower x (e % q) p _ (by omega) (by omega) (by omega)).mono fun e' w' h => ⟨h.1, h.2.symm⟩))
    | fail)
  go_wp2
  go_ret
  exact ⟨⟨_, rfl, HR.out.1, HR.out.2⟩, by (repeat (first | exact Below.refl _ _ | assumption | refine Below.drew ?_ | refine below_drewN ?_ _ | refine Below.alloc ?_ (by first | (simp; done) | (simp; omega)) _ | refine Below.setCell ?_ (by first | (simp; done) | (simp; omega)) _))⟩
set_option maxRecDepth 100000 in
set_option maxHeartbeats 4000000 in
theorem spec_MakeGroup (q p0 : Int) (j : Nat) (w : World) (hq : 2 ≤ q ∧ q ≤ 1000000) (hqp : Prm q) (hpp : Prm p0) (hj : p0 = q + 1 + j * q) (hb : p0 ≤ 2000000000) :
    Calls Try.prog 160 #[.int .i64 q] w fun e w' => (∃ P G : Int, e = .returned (.tuple #[.agg #[.int .i64 P, .int .i64 q, .int .i64 G], .bool true]) ∧ q + 1 ≤ P ∧ P ≤ 2000000000 ∧ 0 ≤ G ∧ G < P) ∧ Below w.heap.size w w' := by
  obtain ⟨hq1, hq2⟩ := hq
  have HQ : Hid (primeB q = true) := primeB_yes hqp
  have HP : Hid (primeB p0 = true) := primeB_yes hpp
  have HIN : Hid (decide (2 ≤ q ∧ q ≤ 1000000) = true) := decide_eq_true ⟨hq1, hq2⟩
  have HJ := Lib.hid hj
  clear hqp hpp hj
  obtain ⟨W, hW⟩ : ∃ W, W = w.alloc (.cells #[.int .i64 0, .int .i64 0, .int .i64 0] 24) := ⟨_, rfl⟩
  have HB : Hid (Below w.heap.size w W) := by unfold Hid; rw [hW]; exact (Below.refl _ _).alloc (Nat.le_refl _) _
  have HX : Hid (BoxN W w.heap.size 24 [.int .i64 0, .int .i64 0, .int .i64 0]) := by unfold Hid; rw [hW]; exact BoxN.new w _ _
  have ew0 : IntKind.i64.wrap (q + 1) = q + 1 := IntWalk.i64_in _ (by omega)
  go_enter Try.func160, Try.ntmps160
  go_wp2_with fail
  rw [← hW]
  clear hW
  refine (spec_l1In q 2 1000000 _).mono ?_
  rintro e w1 ⟨rfl, rfl⟩
  rw [HIN.out]
  go_wp2_with fail
  refine (spec_nPrime q _ (by omega)).mono ?_
  rintro e w1 ⟨rfl, rfl⟩
  rw [HQ.out]
  go_wp2_with fail
  go_loopg [4] j (fun gg pv wr => ∃ p : Int, Hid (p0 = p + (gg : Int) * q) ∧ pv = .int .i64 p ∧ q + 1 ≤ p ∧ p ≤ p0 ∧ W = wr)
  case atStart => exact ⟨q + 1, HJ.out, rfl, Int.le_refl _, by have := HJ.out; have : 0 ≤ (j : Int) * q := Int.mul_nonneg (by omega) (by omega); omega, rfl⟩
  case round =>
    obtain ⟨p, HK, rfl, hp1, hp2, rfl⟩ := hrel
    have hle : p ≤ 2000000000 := by omega
    go_wp2_with fail
    refine (spec_nPrime p _ (by omega)).mono ?_
    rintro e w2 ⟨rfl, rfl⟩
    obtain ⟨b, hpb⟩ : ∃ b, primeB p = b := ⟨_, rfl⟩
    rw [hpb]
    cases b with
    | false =>
      have hne : p ≠ p0 := fun e => by
        have h1 := HP.out
        rw [← e, hpb] at h1
        cases h1
      obtain ⟨f, rfl⟩ : ∃ f, gk = f + 1 := by
        cases gk with
        | zero => exact absurd (by have := HK.out; simpa using this.symm) hne
        | succ f => exact ⟨f, rfl⟩
      have hk2 : p0 = p + q + (f : Int) * q := by
        have h1 := HK.out
        rw [show ((f + 1 : Nat) : Int) = (f : Int) + 1 by omega, Int.add_mul] at h1
        omega
      have hfq : 0 ≤ (f : Int) * q := Int.mul_nonneg (by omega) (by omega)
      have hpq : p + q ≤ p0 := by omega
      have HK2 := Lib.hid hk2
      have ew : IntKind.i64.wrap (p + q) = p + q := IntWalk.i64_in _ (by omega)
      clear HK hne hk2 hfq hpb
      go_wp2_with fail
      go_roundg f
      case measure => omega
      case rel => exact ⟨p + q, HK2.out, rfl, by omega, by omega, rfl⟩
    | true =>
      have ht0 : 0 ≤ (p - 1) / q := Int.ediv_nonneg (by omega) (by omega)
      have ht1 : (p - 1) / q ≤ p - 1 := Int.ediv_le_self _ (by omega)
      have ht2 : 1 ≤ (p - 1) / q := (Int.le_ediv_iff_mul_le (by omega)).2 (by omega)
      have HS := Lib.hid (powM_self (p := p) (e := (p - 1) / q) (by omega) ht2)
      have HPB : Hid (∀ h : Int, 0 ≤ powM h ((p - 1) / q) p ∧ powM h ((p - 1) / q) p < p) := fun h => powM_bd (by omega)
      have et : Int.tdiv (p - 1) q = (p - 1) / q := Int.tdiv_eq_ediv_of_nonneg (by omega)
      obtain ⟨e', he'⟩ : ∃ e', (p - 1) / q = e' := ⟨_, rfl⟩
      rw [he'] at ht0 ht1 ht2 HS HPB et
      have HE := Lib.hid he'
      clear he'
      have ewp : IntKind.i64.wrap (p - 1) = p - 1 := IntWalk.i64_in _ (by omega)
      have ewe : IntKind.i64.wrap e' = e' := IntWalk.i64_in _ (by omega)
      have hqz : ¬ q = 0 := by omega
      go_wp2_with fail
      go_loopg [5] (p.toNat) (fun gg hv wr => ∃ h : Int, hv = .int .i64 h ∧ 2 ≤ h ∧ h ≤ p ∧ p - h ≤ (gg : Int) ∧ W = wr)
      case atStart => exact ⟨2, rfl, by omega, by omega, by omega, rfl⟩
      case round =>
        obtain ⟨h, rfl, h2, h3, h4, rfl⟩ := hrel
        have HY := HPB.out h
        have HSP : Hid (h = p → powM h e' p = 0) := fun e => by rw [e]; exact HS.out
        have ewh : IntKind.i64.wrap (h + 1) = h + 1 := IntWalk.i64_in _ (by omega)
        go_wp2_with fail
        try rw [HE.out]
        refine (spec_nPower h e' p _ (by omega) (by omega) (by omega)).mono ?_
        rintro e w3 ⟨rfl, rfl⟩
        obtain ⟨y, hy⟩ : ∃ y, powM h e' p = y := ⟨_, rfl⟩
        rw [hy] at HY HSP ⊢
        have HYY := Lib.hid hy; clear hy
        obtain ⟨y0, y1⟩ := HY
        by_cases hy1 : y = 1
        · subst hy1
          have hlt : h < p := by
            rcases (by omega : h = p ∨ h < p) with h5 | h5
            · have := HSP.out h5; omega
            · exact h5
          obtain ⟨f, rfl⟩ : ∃ f, gk = f + 1 := ⟨gk - 1, by omega⟩
          go_wp2_with fail
          go_roundg f
          case measure => omega
          case rel => exact ⟨h + 1, rfl, by omega, by omega, by omega, rfl⟩
        · have hyb : (y == 1) = false := by rw [beq_eq_false_iff_ne]; exact hy1
          clear hy1
          go_wp2_with fail
          try rw [HE.out]
          refine (spec_nPower h e' p _ (by omega) (by omega) (by omega)).mono ?_
          rintro e w3 ⟨rfl, rfl⟩
          rw [HYY.out]
          have r0 := HX.out.cell (i := 0) rfl
          have r1 := HX.out.cell (i := 1) rfl
          have r2 := HX.out.cell (i := 2) rfl
          have fr := fun j => HX.out.frozen j
          go_wp2_with fail
          obtain ⟨Y, hY⟩ : ∃ Y, Y = (((W.setCell ⟨w.heap.size, 0, none⟩ (.int .i64 p)).setCell ⟨w.heap.size, 1, none⟩ (.int .i64 q)).setCell ⟨w.heap.size, 2, none⟩ (.int .i64 y)) := ⟨_, rfl⟩
          have HY4 : Hid (BoxN Y w.heap.size 24 [.int .i64 p, .int .i64 q, .int .i64 y]) := by unfold Hid; rw [hY]; exact ((HX.out.set 0 _).set 1 _).set 2 _
          have HB4 : Hid (Below w.heap.size w Y) := by unfold Hid; rw [hY]; exact ((HB.out.setCell (Nat.le_refl _) _).setCell (Nat.le_refl _) _).setCell (Nat.le_refl _) _
          rw [← hY]
          clear hY r0 r1 r2 fr
          have r0 := HY4.out.cell (i := 0) rfl
          have r1 := HY4.out.cell (i := 1) rfl
          have r2 := HY4.out.cell (i := 2) rfl
          refine bodyPost_ret (v := .tuple #[.agg #[.int .i64 p, .int .i64 q, .int .i64 y], .bool true]) (by simp [results, Try.results160, go_sem, r0, r1, r2]) rfl ⟨⟨p, y, rfl, hp1, by omega, y0, y1⟩, HB4.out⟩
end Go.Proofs.Ytacpnphfopmofaa
