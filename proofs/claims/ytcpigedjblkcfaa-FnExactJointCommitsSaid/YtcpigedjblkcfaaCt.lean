/- Contests: their validity and the number of coins of a ballot. -/
import Derived.Test.YtcpigedjblkcfaaBa
namespace Go.Proofs.Ytcpigedjblkcfaa
open Go.RowKit
set_option linter.unusedSimpArgs false
set_option linter.unusedVariables false

/-- a contest is valid -/
def ctOk (k o l m p : Int) : Bool := decide (0 ≤ l ∧ l ≤ m ∧ ((k = 1 ∨ k = 3) ∧ 1 ≤ o ∧ o ≤ 8 ∧ m ≤ o ∧ p = 0 ∨ k = 2 ∧ 1 ≤ o ∧ o ≤ 8 ∧ 1 ≤ p ∧ p ≤ 5 ∧ m ≤ o * p ∨ k = 4 ∧ o = 0 ∧ m ≤ 5 ∧ p = 0))
/-- a contest has proofs for each option -/
def ctForm (k : Int) : Bool := decide (k = 1 ∨ k = 2)
/-- the greatest exponent of an option, by the reference, by the program -/
def ctTop (k p : Int) : Int := if k = 1 then 1 else p
def ctMost (k p : Int) : Int := if k = 2 then p else 1
def ctCoins (k o l m p : Int) : Int := if ctForm k = true then o * (2 * ctTop k p + 2) + 2 * (m - l) + 1 else 2

def ctSeal (k o l m p : Int) : Int := if ctOk k o l m p = true then ctCoins k o l m p else 0
theorem ctSeal_yes {k o l m p : Int} (h : ctOk k o l m p = true) : ctSeal k o l m p = ctCoins k o l m p := by unfold ctSeal; rw [if_pos h]
theorem ctSeal_no {k o l m p : Int} (h : ctOk k o l m p = false) : ctSeal k o l m p = 0 := by unfold ctSeal; rw [if_neg (by rw [h]; simp)]

theorem ctOk_bd {k o l m p : Int} (h : ctOk k o l m p = true) : 0 ≤ o ∧ o ≤ 8 ∧ 0 ≤ p ∧ p ≤ 5 ∧ 0 ≤ l ∧ l ≤ m ∧ m ≤ 40 := by
  unfold ctOk at h
  rw [decide_eq_true_iff] at h
  obtain ⟨h1, h2, h | ⟨h3, h4, h5, h6, h7, h8⟩ | h⟩ := h
  · omega
  · have := mul_bd (a := o) (b := p) (by omega) h5 (by omega) h7
    omega
  · omega
theorem ctTop_bd {k p : Int} (h : 0 ≤ p) (h2 : p ≤ 5) : 0 ≤ ctTop k p ∧ ctTop k p ≤ 5 := by unfold ctTop; split <;> omega
theorem ctMost_eq {k p : Int} (h : ctForm k = true) : ctMost k p = ctTop k p := by
  unfold ctForm at h; rw [decide_eq_true_iff] at h; unfold ctMost ctTop
  rcases h with h | h <;> subst h <;> rfl
theorem ctCoins_form {k o l m p : Int} (h : ctForm k = true) : ctCoins k o l m p = o * (2 * ctTop k p + 2) + 2 * (m - l) + 1 := by unfold ctCoins; rw [if_pos h]
theorem ctCoins_form2 {k o l m p : Int} (h : ctForm k = true) : ctCoins k o l m p = (2 * ctMost k p + 2) * o + 2 * (m - l) + 1 := by
  rw [ctCoins_form h, ctMost_eq h, Int.mul_comm]
theorem ctCoins_none {k o l m p : Int} (h : ctForm k = false) : ctCoins k o l m p = 2 := by unfold ctCoins; rw [if_neg (by rw [h]; simp)]

set_option maxHeartbeats 400000 in
theorem laws_toContest (k o l m p : Int) (w : World) :
    Calls Try.prog 73 #[.agg #[.int .i64 k, .int .i64 o, .int .i64 l, .int .i64 m, .int .i64 p]] w fun e w' => e = .returned (.agg #[.int .i64 k, .int .i64 o, .int .i64 l, .int .i64 m, .int .i64 p]) ∧ Below w.heap.size w w' := by
  go_enter Try.func73, Try.ntmps73
  go_wp2
  exact bodyPost_ret (v := .agg #[.int .i64 k, .int .i64 o, .int .i64 l, .int .i64 m, .int .i64 p]) (by simp [results, Try.results73, go_sem]) rfl ⟨rfl, by (repeat (first | exact Below.refl _ _ | assumption | refine Below.drew ?_ | refine Below.alloc ?_ (by first | (simp; done) | (simp; omega)) _ | refine Below.setCell ?_ (by first | (simp; done) | (simp; omega)) _))⟩
set_option maxHeartbeats 400000 in
theorem spec_bRows (k o l m p : Int) (w : World) :
    Calls Try.prog 168 #[.agg #[.int .i64 k, .int .i64 o, .int .i64 l, .int .i64 m, .int .i64 p]] w fun e w' => e = .returned (.bool (ctForm k)) ∧ Below w.heap.size w w' := by
  go_enter Try.func168, Try.ntmps168
  go_wp2
  all_goals (go_ret; refine ⟨ret_bool ?_, by (repeat (first | exact Below.refl _ _ | assumption | refine Below.drew ?_ | refine Below.alloc ?_ (by first | (simp; done) | (simp; omega)) _ | refine Below.setCell ?_ (by first | (simp; done) | (simp; omega)) _))⟩)
  all_goals (try simp only [beq_iff_eq, beq_eq_false_iff_ne, ne_eq] at *)
  all_goals (unfold ctForm; first | (rw [decide_eq_decide]; omega) | (rw [eq_comm, decide_eq_false_iff_not]; omega) | (rw [eq_comm, decide_eq_true_iff]; omega) | (rw [Bool.eq_iff_iff]; simp; omega))
set_option maxHeartbeats 400000 in
theorem spec_bTop (k o l m p : Int) (w : World) :
    Calls Try.prog 169 #[.agg #[.int .i64 k, .int .i64 o, .int .i64 l, .int .i64 m, .int .i64 p]] w fun e w' => e = .returned (.int .i64 (ctTop k p)) ∧ Below w.heap.size w w' := by
  go_enter Try.func169, Try.ntmps169
  by_cases h1 : k = 1 
  · have HR := Lib.hid (show ctTop k p = 1 by simp [ctTop, h1])
    subst h1
    go_wp2; go_ret
    exact ⟨ret_int (by first | (rw [HR.out]; done) | (rw [HR.out]; rfl) | exact HR.out.symm), by (repeat (first | exact Below.refl _ _ | assumption | refine Below.drew ?_ | refine Below.alloc ?_ (by first | (simp; done) | (simp; omega)) _ | refine Below.setCell ?_ (by first | (simp; done) | (simp; omega)) _))⟩
  · have h1' : (k == 1) = false := by simpa using h1
    have HR := Lib.hid (show ctTop k p = p by simp [ctTop, h1])
    go_wp2; go_ret
    exact ⟨ret_int (by first | (rw [HR.out]; done) | (rw [HR.out]; rfl) | exact HR.out.symm), by (repeat (first | exact Below.refl _ _ | assumption | refine Below.drew ?_ | refine Below.alloc ?_ (by first | (simp; done) | (simp; omega)) _ | refine Below.setCell ?_ (by first | (simp; done) | (simp; omega)) _))⟩
set_option maxHeartbeats 400000 in
theorem impl_isForm (k o l m p : Int) (w : World) :
    Calls Try.prog 172 #[.agg #[.int .i64 k, .int .i64 o, .int .i64 l, .int .i64 m, .int .i64 p]] w fun e w' => e = .returned (.bool (ctForm k)) ∧ Below w.heap.size w w' := by
  go_enter Try.func172, Try.ntmps172
  go_wp2
  all_goals (go_ret; refine ⟨ret_bool ?_, by (repeat (first | exact Below.refl _ _ | assumption | refine Below.drew ?_ | refine Below.alloc ?_ (by first | (simp; done) | (simp; omega)) _ | refine Below.setCell ?_ (by first | (simp; done) | (simp; omega)) _))⟩)
  all_goals (try simp only [beq_iff_eq, beq_eq_false_iff_ne, ne_eq] at *)
  all_goals (unfold ctForm; first | (rw [decide_eq_decide]; omega) | (rw [eq_comm, decide_eq_false_iff_not]; omega) | (rw [eq_comm, decide_eq_true_iff]; omega) | (rw [Bool.eq_iff_iff]; simp; omega))
set_option maxHeartbeats 400000 in
theorem impl_most (k o l m p : Int) (w : World) :
    Calls Try.prog 173 #[.agg #[.int .i64 k, .int .i64 o, .int .i64 l, .int .i64 m, .int .i64 p]] w fun e w' => e = .returned (.int .i64 (ctMost k p)) ∧ Below w.heap.size w w' := by
  go_enter Try.func173, Try.ntmps173
  by_cases h1 : k = 2 
  · have HR := Lib.hid (show ctMost k p = p by simp [ctMost, h1])
    subst h1
    go_wp2; go_ret
    exact ⟨ret_int (by first | (rw [HR.out]; done) | (rw [HR.out]; rfl) | exact HR.out.symm), by (repeat (first | exact Below.refl _ _ | assumption | refine Below.drew ?_ | refine Below.alloc ?_ (by first | (simp; done) | (simp; omega)) _ | refine Below.setCell ?_ (by first | (simp; done) | (simp; omega)) _))⟩
  · have h1' : (k == 2) = false := by simpa using h1
    have HR := Lib.hid (show ctMost k p = 1 by simp [ctMost, h1])
    go_wp2; go_ret
    exact ⟨ret_int (by first | (rw [HR.out]; done) | (rw [HR.out]; rfl) | exact HR.out.symm), by (repeat (first | exact Below.refl _ _ | assumption | refine Below.drew ?_ | refine Below.alloc ?_ (by first | (simp; done) | (simp; omega)) _ | refine Below.setCell ?_ (by first | (simp; done) | (simp; omega)) _))⟩
set_option maxHeartbeats 1000000 in
theorem spec_vContest (k o l m p : Int) (w : World) :
    Calls Try.prog 222 #[.agg #[.int .i64 k, .int .i64 o, .int .i64 l, .int .i64 m, .int .i64 p]] w fun e w' => e = .returned (.bool (ctOk k o l m p)) ∧ Below w.heap.size w w' := by
  have hop : 1 ≤ o → o ≤ 8 → 1 ≤ p → p ≤ 5 → IntKind.i64.wrap (o * p) = o * p := fun h1 h2 h3 h4 => by
    have := mul_bd (a := o) (b := p) (by omega) h2 (by omega) h4
    exact IntWalk.i64_in _ (by omega)
  go_enter Try.func222, Try.ntmps222
  go_wp2
  all_goals (go_ret; refine ⟨ret_bool ?_, by (repeat (first | exact Below.refl _ _ | assumption | refine Below.drew ?_ | refine Below.alloc ?_ (by first | (simp; done) | (simp; omega)) _ | refine Below.setCell ?_ (by first | (simp; done) | (simp; omega)) _))⟩; clear hop)
  all_goals (try simp only [beq_iff_eq, beq_eq_false_iff_ne, ne_eq] at *)
  all_goals (unfold ctOk; first | (rw [decide_eq_decide]; omega) | (rw [eq_comm, decide_eq_false_iff_not]; omega) | (rw [eq_comm, decide_eq_true_iff]; omega) | (rw [Bool.eq_iff_iff]; simp; omega))
set_option maxHeartbeats 1000000 in
theorem impl_IsValidContest (k o l m p : Int) (w : World) :
    Calls Try.prog 226 #[.agg #[.int .i64 k, .int .i64 o, .int .i64 l, .int .i64 m, .int .i64 p]] w fun e w' => e = .returned (.bool (ctOk k o l m p)) ∧ Below w.heap.size w w' := by
  have hop : 1 ≤ o → o ≤ 8 → 1 ≤ p → p ≤ 5 → IntKind.i64.wrap (o * p) = o * p := fun h1 h2 h3 h4 => by
    have := mul_bd (a := o) (b := p) (by omega) h2 (by omega) h4
    exact IntWalk.i64_in _ (by omega)
  go_enter Try.func226, Try.ntmps226
  go_wp2
  all_goals (go_ret; refine ⟨ret_bool ?_, by (repeat (first | exact Below.refl _ _ | assumption | refine Below.drew ?_ | refine Below.alloc ?_ (by first | (simp; done) | (simp; omega)) _ | refine Below.setCell ?_ (by first | (simp; done) | (simp; omega)) _))⟩; clear hop)
  all_goals (try simp only [beq_iff_eq, beq_eq_false_iff_ne, ne_eq] at *)
  all_goals (unfold ctOk; first | (rw [decide_eq_decide]; omega) | (rw [eq_comm, decide_eq_false_iff_not]; omega) | (rw [eq_comm, decide_eq_true_iff]; omega) | (rw [Bool.eq_iff_iff]; simp; omega))
end Go.Proofs.Ytcpigedjblkcfaa
