/- Derived elements: plain laws, walks of derive. -/
import Derived.Test.YtboahnklilmdpaaBg
import Derived.Test.YtboahnklilmdpaaHashS
namespace Go.Proofs.Ytboahnklilmdpaa
open Go.RowKit
set_option linter.unusedSimpArgs false
set_option linter.unusedVariables false

theorem Prm.nz {p a : Int} (hp : Prm p) (h1 : 1 ≤ a) (h2 : a < p) (e : Int) : powM a e p ≠ 0 := by
  obtain ⟨P, rfl⟩ : ∃ P : Nat, p = P := ⟨p.toNat, by omega⟩
  obtain ⟨A, rfl⟩ : ∃ A : Nat, a = A := ⟨a.toNat, by omega⟩
  have hc : Nat.Coprime A P := by
    have hgA := Nat.gcd_dvd_left A P
    have hgP := Nat.gcd_dvd_right A P
    have hg0 : 0 < Nat.gcd A P := Nat.gcd_pos_of_pos_left _ (by omega)
    have hgle := Nat.le_of_dvd (by omega) hgA
    show Nat.gcd A P = 1
    generalize Nat.gcd A P = g at *
    obtain ⟨k, hk⟩ := hgP
    by_cases h : g = 1
    · exact h
    exfalso
    by_cases hle : g ≤ k
    · refine hp.2 g (by omega) ?_ ?_
      · have := Nat.mul_le_mul_left g hle
        rw [hk]; exact_mod_cast this
      · rw [hk]; exact_mod_cast Nat.mul_mod_right g k
    · have hk0 : k ≠ 0 := fun e => by subst e; omega
      have hk1 : k ≠ 1 := fun e => by subst e; omega
      refine hp.2 k (by omega) ?_ ?_
      · have := Nat.mul_le_mul_right k (show k ≤ g by omega)
        rw [hk]; exact_mod_cast this
      · rw [hk]; exact_mod_cast Nat.mul_mod_left g k
  intro h0
  unfold powM at h0
  have h3 : ((A ^ e.toNat % P : Nat) : Int) = 0 := by rw [← h0]; push_cast; rfl
  have h4 : P ∣ A ^ e.toNat := Nat.dvd_of_mod_eq_zero (by exact_mod_cast h3)
  have h5 : Nat.Coprime P (A ^ e.toNat) := (Nat.Coprime.pow_left e.toNat hc).symm
  have h6 := Nat.Coprime.eq_one_of_dvd h5 h4
  have := hp.1
  omega
/-- the element that a digest gives -/
def derX (gr : GroupD) (s : ByteArray) (k : Int) (c : Nat) : Int := powM (1 + hashOf (lab s ++ [gr.p, gr.q, gr.g, k, (c : Int)]) % (gr.p - 1)) ((gr.p - 1) / gr.q) gr.p
/-- the first of the first n that is not one, or nought -/
def derTo (gr : GroupD) (s : ByteArray) (k : Int) : Nat → Int
  | 0 => 0
  | n + 1 => if derTo gr s k n = 0 then (if derX gr s k n = 1 then 0 else derX gr s k n) else derTo gr s k n
/-- the derived element, or nought -/
def hD (gr : GroupD) (s : ByteArray) (k : Int) : Int := derTo gr s k 1000
theorem derX_nz {gr : GroupD} (hg : OkG gr) (s : ByteArray) (k : Int) (c : Nat) : derX gr s k c ≠ 0 := by
  refine hg.pp.nz ?_ ?_ _
  · have := Int.emod_nonneg (hashOf (lab s ++ [gr.p, gr.q, gr.g, k, (c : Int)])) (show gr.p - 1 ≠ 0 by have := hg.p1; omega)
    omega
  · have := Int.emod_lt_of_pos (hashOf (lab s ++ [gr.p, gr.q, gr.g, k, (c : Int)])) (show 0 < gr.p - 1 by have := hg.p1; omega)
    omega
theorem derX_bd {gr : GroupD} (hg : OkG gr) (s : ByteArray) (k : Int) (c : Nat) : 0 ≤ derX gr s k c ∧ derX gr s k c < gr.p := powM_bd (by have := hg.p1; omega)
theorem derTo_stay {gr : GroupD} {s : ByteArray} {k : Int} {n : Nat} (h : derTo gr s k n ≠ 0) (m : Nat) : derTo gr s k (n + m) = derTo gr s k n := by
  induction m with
  | zero => rfl
  | succ m ih => rw [← Nat.add_assoc, derTo, ih, if_neg h]
theorem derTo_found {gr : GroupD} (hg : OkG gr) {s : ByteArray} {k : Int} {n : Nat} (h0 : derTo gr s k n = 0) (h1 : derX gr s k n ≠ 1) (hn : n < 1000) : hD gr s k = derX gr s k n := by
  have e : derTo gr s k (n + 1) = derX gr s k n := by rw [derTo, if_pos h0, if_neg h1]
  have := derTo_stay (n := n + 1) (by rw [e]; exact derX_nz hg s k n) (1000 - (n + 1))
  rw [show n + 1 + (1000 - (n + 1)) = 1000 by omega, e] at this
  exact this
theorem derTo_next {gr : GroupD} {s : ByteArray} {k : Int} {n : Nat} (h0 : derTo gr s k n = 0) (h1 : derX gr s k n = 1) : derTo gr s k (n + 1) = 0 := by rw [derTo, if_pos h0, if_pos h1]
theorem hD_bd {gr : GroupD} (hg : OkG gr) (s : ByteArray) (k : Int) : 0 ≤ hD gr s k ∧ hD gr s k < gr.p := by
  unfold hD
  generalize 1000 = n
  induction n with
  | zero => have := hg.p1; exact ⟨Int.le_refl _, by show (0 : Int) < _; omega⟩
  | succ n ih =>
    rw [derTo]
    split
    · split
      · have := hg.p1; omega
      · exact derX_bd hg s k n
    · exact ih
theorem derL_all {gr : GroupD} (hg : OkG gr) {k : Int} (hk : digestB k = true) {c : Nat} (hc : c < 1000) : ([gr.p, gr.q, gr.g, k, (c : Int)]).all digestB = true := by
  have := hg.p1; have := hg.p2; have := hg.q1; have := hg.q2; have := hg.g1; have := hg.g2
  unfold digestB at hk
  simp only [decide_eq_true_iff] at hk
  simp only [List.all_cons, List.all_nil, Bool.and_true, Bool.and_eq_true, digestB, decide_eq_true_iff]
  refine ⟨by omega, by omega, by omega, by omega, by omega⟩
theorem derL_lab {gr : GroupD} (hg : OkG gr) {s : ByteArray} (hs : s.size ≤ 40) {k : Int} (hk : digestB k = true) {c : Nat} (hc : c < 1000) : labelledB s [gr.p, gr.q, gr.g, k, (c : Int)] = true := by
  unfold labelledB hashable
  rw [List.all_append, lab_all s (by omega), derL_all hg hk hc, List.length_append, lab_length]
  simp; omega
theorem derL_hash {gr : GroupD} (hg : OkG gr) {s : ByteArray} (hs : s.size ≤ 40) {k : Int} (hk : digestB k = true) {c : Nat} (hc : c < 1000) : labelledI s [gr.p, gr.q, gr.g, k, (c : Int)] = hashOf (lab s ++ [gr.p, gr.q, gr.g, k, (c : Int)]) := by
  unfold labelledI; rw [if_pos (derL_lab hg hs hk hc)]
end Go.Proofs.Ytboahnklilmdpaa
