/- Contests: their validity and the number of coins of a ballot. -/
import Derived.Test.YtlkhkoemfmjloaaNum
namespace Go.Proofs.Ytlkhkoemfmjloaa
open Go.RowKit
set_option linter.unusedSimpArgs false
set_option linter.unusedVariables false

/-- a contest is valid -/
def ctOk (k o l m p : Int) : Bool := decide (0 ≤ l ∧ l ≤ m ∧ ((k = 1 ∨ k = 3) ∧ 1 ≤ o ∧ o ≤ 8 ∧ m ≤ o ∧ p = 0 ∨ k = 2 ∧ 1 ≤ o ∧ o ≤ 8 ∧ 1 ≤ p ∧ p ≤ 5 ∧ m ≤ o * p ∨ k = 4 ∧ o = 0 ∧ m ≤ 5 ∧ p = 0))
/-- a contest has proofs for each option -/
def ctForm (k : Int) : Bool := decide (k = 1 ∨ k = 2)
/-- the greatest exponent of an option, by the reference, by the program -/
def ctTop (k p : Int) : Int := if k = 1 then 1 else p
def ctMost (k p : Int) : Int := if k = 2 then p else 1
def ctCoins (k o l m p : Int) : Int := if ctForm k = true then o * (2 * ctTop k p + 2) + 2 * (m - l) + 1 else 2

def ctSeal (k o l m p : Int) : Int := if ctOk k o l m p = true then ctCoins k o l m p else 0
theorem ctSeal_yes {k o l m p : Int} (h : ctOk k o l m p = true) : ctSeal k o l m p = ctCoins k o l m p := by unfold ctSeal; rw [if_pos h]
theorem ctSeal_no {k o l m p : Int} (h : ctOk k o l m p = false) : ctSeal k o l m p = 0 := by unfold ctSeal; rw [if_neg (by rw [h]; simp)]
theorem ret_int_bool {a a' : Int} {b b' : Bool} (h : a = a') (h' : b = b') : Ending.returned (.tuple #[.int .i64 a, .bool b]) = .returned (.tuple #[.int .i64 a', .bool b']) := by rw [h, h']

theorem ctOk_bd {k o l m p : Int} (h : ctOk k o l m p = true) : 0 ≤ o ∧ o ≤ 8 ∧ 0 ≤ p ∧ p ≤ 5 ∧ 0 ≤ l ∧ l ≤ m ∧ m ≤ 40 := by
  unfold ctOk at h
  rw [decide_eq_true_iff] at h
  obtain ⟨h1, h2, h | ⟨h3, h4, h5, h6, h7, h8⟩ | h⟩ := h
  · omega
  · have := mul_bd (a := o) (b := p) (by omega) h5 (by omega) h7
    omega
  · omega
theorem ctTop_bd {k p : Int} (h : 0 ≤ p) (h2 : p ≤ 5) : 0 ≤ ctTop k p ∧ ctTop k p ≤ 5 := by unfold ctTop; split <;> omega
theorem ctMost_eq {k p : Int} (h : ctForm k = true) : ctMost k p = ctTop k p := by
  unfold ctForm at h; rw [decide_eq_true_iff] at h; unfold ctMost ctTop
  rcases h with h | h <;> subst h <;> rfl
theorem ctCoins_form {k o l m p : Int} (h : ctForm k = true) : ctCoins k o l m p = o * (2 * ctTop k p + 2) + 2 * (m - l) + 1 := by unfold ctCoins; rw [if_pos h]
theorem ctCoins_form2 {k o l m p : Int} (h : ctForm k = true) : ctCoins k o l m p = (2 * ctMost k p + 2) * o + 2 * (m - l) + 1 := by
  rw [ctCoins_form h, ctMost_eq h, Int.mul_comm]
theorem ctCoins_none {k o l m p : Int} (h : ctForm k = false) : ctCoins k o l m p = 2 := by unfold ctCoins; rw [if_neg (by rw [h]; simp)]

set_option maxHeartbeats 400000 in
theorem laws_toContest (k o l m p : Int) (w : World) :
    Calls Try.prog 10 #[.agg #[.int .i64 k, .int .i64 o, .int .i64 l, .int .i64 m, .int .i64 p]] w fun e w' => e = .returned (.agg #[.int .i64 k, .int .i64 o, .int .i64 l, .int .i64 m, .int .i64 p]) ∧ Below w.heap.size w w' := by
  go_enter Try.func10, Try.ntmps10
  go_wp2
  exact bodyPost_ret (v := .agg #[.int .i64 k, .int .i64 o, .int .i64 l, .int .i64 m, .int .i64 p]) (by simp [results, Try.results10, go_sem]) rfl ⟨rfl, by (repeat (first | exact Below.refl _ _ | assumption | refine Below.drew ?_ | refine Below.alloc ?_ (by first | (simp; done) | (simp; omega)) _ | refine Below.setCell ?_ (by first | (simp; done) | (simp; omega)) _))⟩
set_option maxHeartbeats 400000 in
theorem spec_bRows (k o l m p : Int) (w : World) :
    Calls Try.prog 62 #[.agg #[.int .i64 k, .int .i64 o, .int .i64 l, .int .i64 m, .int .i64 p]] w fun e w' => e = .returned (.bool (ctForm k)) ∧ Below w.heap.size w w' := by
  go_enter Try.func62, Try.ntmps62
  go_wp2
  all_goals (go_ret; refine ⟨ret_bool ?_, by (repeat (first | exact Below.refl _ _ | assumption | refine Below.drew ?_ | refine Below.alloc ?_ (by first | (simp; done) | (simp; omega)) _ | refine Below.setCell ?_ (by first | (simp; done) | (simp; omega)) _))⟩)
  all_goals (try simp only [beq_iff_eq, beq_eq_false_iff_ne, ne_eq] at *)
  all_goals (unfold ctForm; first | (rw [decide_eq_decide]; omega) | (rw [eq_comm, decide_eq_false_iff_not]; omega) | (rw [eq_comm, decide_eq_true_iff]; omega) | (rw [Bool.eq_iff_iff]; simp; omega))
set_option maxHeartbeats 400000 in
theorem spec_bTop (k o l m p : Int) (w : World) :
    Calls Try.prog 63 #[.agg #[.int .i64 k, .int .i64 o, .int .i64 l, .int .i64 m, .int .i64 p]] w fun e w' => e = .returned (.int .i64 (ctTop k p)) ∧ Below w.heap.size w w' := by
  go_enter Try.func63, Try.ntmps63
  by_cases h1 : k = 1 
  · have HR := Lib.hid (show ctTop k p = 1 by simp [ctTop, h1])
    subst h1
    go_wp2; go_ret
    exact ⟨ret_int (by first | (rw [HR.out]; done) | (rw [HR.out]; rfl) | exact HR.out.symm), by (repeat (first | exact Below.refl _ _ | assumption | refine Below.drew ?_ | refine Below.alloc ?_ (by first | (simp; done) | (simp; omega)) _ | refine Below.setCell ?_ (by first | (simp; done) | (simp; omega)) _))⟩
  · have h1' : (k == 1) = false := by simpa using h1
    have HR := Lib.hid (show ctTop k p = p by simp [ctTop, h1])
    go_wp2; go_ret
    exact ⟨ret_int (by first | (rw [HR.out]; done) | (rw [HR.out]; rfl) | exact HR.out.symm), by (repeat (first | exact Below.refl _ _ | assumption | refine Below.drew ?_ | refine Below.alloc ?_ (by first | (simp; done) | (simp; omega)) _ | refine Below.setCell ?_ (by first | (simp; done) | (simp; omega)) _))⟩
set_option maxHeartbeats 400000 in
theorem impl_isForm (k o l m p : Int) (w : World) :
    Calls Try.prog 64 #[.agg #[.int .i64 k, .int .i64 o, .int .i64 l, .int .i64 m, .int .i64 p]] w fun e w' => e = .returned (.bool (ctForm k)) ∧ Below w.heap.size w w' := by
  go_enter Try.func64, Try.ntmps64
  go_wp2
  all_goals (go_ret; refine ⟨ret_bool ?_, by (repeat (first | exact Below.refl _ _ | assumption | refine Below.drew ?_ | refine Below.alloc ?_ (by first | (simp; done) | (simp; omega)) _ | refine Below.setCell ?_ (by first | (simp; done) | (simp; omega)) _))⟩)
  all_goals (try simp only [beq_iff_eq, beq_eq_false_iff_ne, ne_eq] at *)
  all_goals (unfold ctForm; first | (rw [decide_eq_decide]; omega) | (rw [eq_comm, decide_eq_false_iff_not]; omega) | (rw [eq_comm, decide_eq_true_iff]; omega) | (rw [Bool.eq_iff_iff]; simp; omega))
set_option maxHeartbeats 400000 in
theorem impl_most (k o l m p : Int) (w : World) :
    Calls Try.prog 65 #[.agg #[.int .i64 k, .int .i64 o, .int .i64 l, .int .i64 m, .int .i64 p]] w fun e w' => e = .returned (.int .i64 (ctMost k p)) ∧ Below w.heap.size w w' := by
  go_enter Try.func65, Try.ntmps65
  by_cases h1 : k = 2 
  · have HR := Lib.hid (show ctMost k p = p by simp [ctMost, h1])
    subst h1
    go_wp2; go_ret
    exact ⟨ret_int (by first | (rw [HR.out]; done) | (rw [HR.out]; rfl) | exact HR.out.symm), by (repeat (first | exact Below.refl _ _ | assumption | refine Below.drew ?_ | refine Below.alloc ?_ (by first | (simp; done) | (simp; omega)) _ | refine Below.setCell ?_ (by first | (simp; done) | (simp; omega)) _))⟩
  · have h1' : (k == 2) = false := by simpa using h1
    have HR := Lib.hid (show ctMost k p = 1 by simp [ctMost, h1])
    go_wp2; go_ret
    exact ⟨ret_int (by first | (rw [HR.out]; done) | (rw [HR.out]; rfl) | exact HR.out.symm), by (repeat (first | exact Below.refl _ _ | assumption | refine Below.drew ?_ | refine Below.alloc ?_ (by first | (simp; done) | (simp; omega)) _ | refine Below.setCell ?_ (by first | (simp; done) | (simp; omega)) _))⟩
set_option maxHeartbeats 1000000 in
theorem spec_vContest (k o l m p : Int) (w : World) :
    Calls Try.prog 35 #[.agg #[.int .i64 k, .int .i64 o, .int .i64 l, .int .i64 m, .int .i64 p]] w fun e w' => e = .returned (.bool (ctOk k o l m p)) ∧ Below w.heap.size w w' := by
  have hop : 1 ≤ o → o ≤ 8 → 1 ≤ p → p ≤ 5 → IntKind.i64.wrap (o * p) = o * p := fun h1 h2 h3 h4 => by
    have := mul_bd (a := o) (b := p) (by omega) h2 (by omega) h4
    exact IntWalk.i64_in _ (by omega)
  go_enter Try.func35, Try.ntmps35
  go_wp2
  all_goals (go_ret; refine ⟨ret_bool ?_, by (repeat (first | exact Below.refl _ _ | assumption | refine Below.drew ?_ | refine Below.alloc ?_ (by first | (simp; done) | (simp; omega)) _ | refine Below.setCell ?_ (by first | (simp; done) | (simp; omega)) _))⟩; clear hop)
  all_goals (try simp only [beq_iff_eq, beq_eq_false_iff_ne, ne_eq] at *)
  all_goals (unfold ctOk; first | (rw [decide_eq_decide]; omega) | (rw [eq_comm, decide_eq_false_iff_not]; omega) | (rw [eq_comm, decide_eq_true_iff]; omega) | (rw [Bool.eq_iff_iff]; simp; omega))
set_option maxHeartbeats 1000000 in
theorem impl_IsValidContest (k o l m p : Int) (w : World) :
    Calls Try.prog 37 #[.agg #[.int .i64 k, .int .i64 o, .int .i64 l, .int .i64 m, .int .i64 p]] w fun e w' => e = .returned (.bool (ctOk k o l m p)) ∧ Below w.heap.size w w' := by
  have hop : 1 ≤ o → o ≤ 8 → 1 ≤ p → p ≤ 5 → IntKind.i64.wrap (o * p) = o * p := fun h1 h2 h3 h4 => by
    have := mul_bd (a := o) (b := p) (by omega) h2 (by omega) h4
    exact IntWalk.i64_in _ (by omega)
  go_enter Try.func37, Try.ntmps37
  go_wp2
  all_goals (go_ret; refine ⟨ret_bool ?_, by (repeat (first | exact Below.refl _ _ | assumption | refine Below.drew ?_ | refine Below.alloc ?_ (by first | (simp; done) | (simp; omega)) _ | refine Below.setCell ?_ (by first | (simp; done) | (simp; omega)) _))⟩; clear hop)
  all_goals (try simp only [beq_iff_eq, beq_eq_false_iff_ne, ne_eq] at *)
  all_goals (unfold ctOk; first | (rw [decide_eq_decide]; omega) | (rw [eq_comm, decide_eq_false_iff_not]; omega) | (rw [eq_comm, decide_eq_true_iff]; omega) | (rw [Bool.eq_iff_iff]; simp; omega))
set_option maxHeartbeats 1000000 in
theorem spec_bCoins (k o l m p : Int) (w : World) (hok : ctOk k o l m p = true) :
    Calls Try.prog 36 #[.agg #[.int .i64 k, .int .i64 o, .int .i64 l, .int .i64 m, .int .i64 p]] w fun e w' => e = .returned (.int .i64 (ctCoins k o l m p)) ∧ Below w.heap.size w w' := by
  obtain ⟨ho, ho2, hp, hp2, hl, hlm, hm⟩ := ctOk_bd hok
  clear hok
  cases hF : ctForm k with
  | false =>
    have HC := Lib.hid (ctCoins_none (o := o) (l := l) (m := m) (p := p) hF)
    have HF := Lib.hid hF; clear hF
    go_enter Try.func36, Try.ntmps36
    go_wp2_with fail
    refine (spec_bRows k o l m p _).mono ?_
    rintro e w1 ⟨rfl, hb⟩
    rw [HF.out]
    go_wp2_with fail
    go_ret
    exact ⟨ret_int (by first | (rw [HC.out]; done) | (rw [HC.out]; rfl) | exact HC.out.symm), (by (repeat (first | exact Below.refl _ _ | assumption | refine Below.drew ?_ | refine Below.alloc ?_ (by first | (simp; done) | (simp; omega)) _ | refine Below.setCell ?_ (by first | (simp; done) | (simp; omega)) _)) : Below w.heap.size w (w.alloc _)).trans (hb.mono (by simp))⟩
  | true =>
    have HC := Lib.hid (ctCoins_form (o := o) (l := l) (m := m) (p := p) hF)
    have HF := Lib.hid hF; clear hF
    go_enter Try.func36, Try.ntmps36
    go_wp2_with fail
    refine (spec_bRows k o l m p _).mono ?_
    rintro e w1 ⟨rfl, hb⟩
    rw [HF.out]
    obtain ⟨hc, hf⟩ := bcell hb
    go_wp2_with fail
    have hB : w.heap.size < w1.heap.size := by have := hb.size; simp at this; omega
    obtain ⟨t0, t1⟩ := ctTop_bd (k := k) hp hp2
    generalize ht : ctTop k p = t at *
    have HT := Lib.hid ht; clear ht
    obtain ⟨m1, m2⟩ := mul_bd (a := o) (b := 2 * t + 2) ho ho2 (by omega) (show _ ≤ 12 by omega)
    have e1 : IntKind.i64.wrap (m - l) = m - l := IntWalk.i64_in _ (by omega)
    have e2 : IntKind.i64.wrap (2 * (m - l)) = 2 * (m - l) := IntWalk.i64_in _ (by omega)
    have e3 : IntKind.i64.wrap (2 * t) = 2 * t := IntWalk.i64_in _ (by omega)
    have e4 : IntKind.i64.wrap (2 * t + 2) = 2 * t + 2 := IntWalk.i64_in _ (by omega)
    have e5 : IntKind.i64.wrap (o * (2 * t + 2)) = o * (2 * t + 2) := IntWalk.i64_in _ (by omega)
    have e6 : IntKind.i64.wrap (o * (2 * t + 2) + 2 * (m - l)) = o * (2 * t + 2) + 2 * (m - l) := IntWalk.i64_in _ (by omega)
    have e7 : IntKind.i64.wrap (o * (2 * t + 2) + 2 * (m - l) + 1) = o * (2 * t + 2) + 2 * (m - l) + 1 := IntWalk.i64_in _ (by omega)
    go_region_held3 (fun w' => Below (w.heap.size + 1) w1 w' ∧ ∀ o, w'.cell? ⟨w.heap.size, o, none⟩ = w1.cell? ⟨w.heap.size, o, none⟩) (first | exact ⟨(Below.refl _ _).drew, fun _ => rfl⟩ | exact keep_call hB (by assumption) (by assumption)) ((go_at_call 63; refine (spec_bTop k o l m p _).mono ?_; rintro e w' ⟨rfl, hb'⟩; rw [HT.out]))
    go_wp2_with fail
    go_ret
    obtain ⟨hs1, hs2⟩ := ‹Below (w.heap.size + 1) w1 _ ∧ _›
    exact ⟨ret_int (by first | (rw [HC.out]; done) | (rw [HC.out]; rfl) | exact HC.out.symm), ((by (repeat (first | exact Below.refl _ _ | assumption | refine Below.drew ?_ | refine Below.alloc ?_ (by first | (simp; done) | (simp; omega)) _ | refine Below.setCell ?_ (by first | (simp; done) | (simp; omega)) _)) : Below w.heap.size w (w.alloc _)).trans (hb.mono (by simp))).trans (hs1.mono (by simp))⟩
set_option maxHeartbeats 1000000 in
theorem impl_coins (k o l m p : Int) (w : World) (hok : ctOk k o l m p = true) :
    Calls Try.prog 38 #[.agg #[.int .i64 k, .int .i64 o, .int .i64 l, .int .i64 m, .int .i64 p]] w fun e w' => e = .returned (.int .i64 (ctCoins k o l m p)) ∧ Below w.heap.size w w' := by
  obtain ⟨ho, ho2, hp, hp2, hl, hlm, hm⟩ := ctOk_bd hok
  clear hok
  cases hF : ctForm k with
  | false =>
    have HC := Lib.hid (ctCoins_none (o := o) (l := l) (m := m) (p := p) hF)
    have HF := Lib.hid hF; clear hF
    go_enter Try.func38, Try.ntmps38
    go_wp2_with fail
    refine (impl_isForm k o l m p _).mono ?_
    rintro e w1 ⟨rfl, hb⟩
    rw [HF.out]
    go_wp2_with fail
    go_ret
    exact ⟨ret_int (by first | (rw [HC.out]; done) | (rw [HC.out]; rfl) | exact HC.out.symm), (by (repeat (first | exact Below.refl _ _ | assumption | refine Below.drew ?_ | refine Below.alloc ?_ (by first | (simp; done) | (simp; omega)) _ | refine Below.setCell ?_ (by first | (simp; done) | (simp; omega)) _)) : Below w.heap.size w (w.alloc _)).trans (hb.mono (by simp))⟩
  | true =>
    have HC := Lib.hid (ctCoins_form2 (o := o) (l := l) (m := m) (p := p) hF)
    have t0 : 0 ≤ ctMost k p := by rw [ctMost_eq hF]; exact (ctTop_bd hp hp2).1
    have t1 : ctMost k p ≤ 5 := by rw [ctMost_eq hF]; exact (ctTop_bd hp hp2).2
    have HF := Lib.hid hF; clear hF
    go_enter Try.func38, Try.ntmps38
    go_wp2_with fail
    refine (impl_isForm k o l m p _).mono ?_
    rintro e w1 ⟨rfl, hb⟩
    rw [HF.out]
    obtain ⟨hc, hf⟩ := bcell hb
    go_wp2_with fail
    have hB : w.heap.size < w1.heap.size := by have := hb.size; simp at this; omega
    generalize ht : ctMost k p = t at *
    have HT := Lib.hid ht; clear ht
    obtain ⟨m1, m2⟩ := mul_bd (a := 2 * t + 2) (b := o) (by omega) (show _ ≤ 12 by omega) ho ho2
    have e1 : IntKind.i64.wrap (m - l) = m - l := IntWalk.i64_in _ (by omega)
    have e2 : IntKind.i64.wrap (2 * (m - l)) = 2 * (m - l) := IntWalk.i64_in _ (by omega)
    have e3 : IntKind.i64.wrap (2 * t) = 2 * t := IntWalk.i64_in _ (by omega)
    have e4 : IntKind.i64.wrap (2 * t + 2) = 2 * t + 2 := IntWalk.i64_in _ (by omega)
    have e5 : IntKind.i64.wrap ((2 * t + 2) * o) = (2 * t + 2) * o := IntWalk.i64_in _ (by omega)
    have e6 : IntKind.i64.wrap ((2 * t + 2) * o + 2 * (m - l)) = (2 * t + 2) * o + 2 * (m - l) := IntWalk.i64_in _ (by omega)
    have e7 : IntKind.i64.wrap ((2 * t + 2) * o + 2 * (m - l) + 1) = (2 * t + 2) * o + 2 * (m - l) + 1 := IntWalk.i64_in _ (by omega)
    go_region_held3 (fun w' => Below (w.heap.size + 1) w1 w' ∧ ∀ o, w'.cell? ⟨w.heap.size, o, none⟩ = w1.cell? ⟨w.heap.size, o, none⟩) (first | exact ⟨(Below.refl _ _).drew, fun _ => rfl⟩ | exact keep_call hB (by assumption) (by assumption)) ((go_at_call 65; refine (impl_most k o l m p _).mono ?_; rintro e w' ⟨rfl, hb'⟩; rw [HT.out]))
    go_wp2_with fail
    go_ret
    obtain ⟨hs1, hs2⟩ := ‹Below (w.heap.size + 1) w1 _ ∧ _›
    exact ⟨ret_int (by first | (rw [HC.out]; done) | (rw [HC.out]; rfl) | exact HC.out.symm), ((by (repeat (first | exact Below.refl _ _ | assumption | refine Below.drew ?_ | refine Below.alloc ?_ (by first | (simp; done) | (simp; omega)) _ | refine Below.setCell ?_ (by first | (simp; done) | (simp; omega)) _)) : Below w.heap.size w (w.alloc _)).trans (hb.mono (by simp))).trans (hs1.mono (by simp))⟩
set_option maxHeartbeats 400000 in
theorem spec_CoinsForSeal (k o l m p : Int) (w : World) :
    Calls Try.prog 9 #[.agg #[.int .i64 k, .int .i64 o, .int .i64 l, .int .i64 m, .int .i64 p]] w fun e w' => e = .returned (.tuple #[.int .i64 (ctSeal k o l m p), .bool (ctOk k o l m p)]) ∧ Below w.heap.size w w' := by
  cases hok : ctOk k o l m p with
  | false =>
    have HS := Lib.hid (ctSeal_no hok)
    have HK := Lib.hid hok; clear hok
    go_enter Try.func9, Try.ntmps9
    go_wp2_with fail
    refine (spec_vContest k o l m p _).mono ?_
    rintro e w1 ⟨rfl, hb⟩
    rw [HK.out]
    go_wp2_with fail
    go_ret2
    exact ⟨ret_int_bool (by first | (rw [HS.out]; done) | (rw [HS.out]; rfl) | exact HS.out.symm) rfl, (by (repeat (first | exact Below.refl _ _ | assumption | refine Below.drew ?_ | refine Below.alloc ?_ (by first | (simp; done) | (simp; omega)) _ | refine Below.setCell ?_ (by first | (simp; done) | (simp; omega)) _)) : Below w.heap.size w (w.alloc _)).trans (hb.mono (by simp))⟩
  | true =>
    have HS := Lib.hid (ctSeal_yes hok)
    have HK := Lib.hid hok; clear hok
    go_enter Try.func9, Try.ntmps9
    go_wp2_with fail
    refine (spec_vContest k o l m p _).mono ?_
    rintro e w1 ⟨rfl, hb⟩
    rw [HK.out]
    obtain ⟨hc, hf⟩ := bcell hb
    go_wp2_with fail
    refine (spec_bCoins k o l m p _ HK.out).mono ?_
    rintro e w2 ⟨rfl, hb2⟩
    go_wp2_with fail
    go_ret2
    exact ⟨ret_int_bool (by first | (rw [HS.out]; done) | (rw [HS.out]; rfl) | exact HS.out.symm) rfl, ((by (repeat (first | exact Below.refl _ _ | assumption | refine Below.drew ?_ | refine Below.alloc ?_ (by first | (simp; done) | (simp; omega)) _ | refine Below.setCell ?_ (by first | (simp; done) | (simp; omega)) _)) : Below w.heap.size w (w.alloc _)).trans (hb.mono (by simp))).trans (hb2.mono (by have := hb.size; simp at this; omega))⟩
set_option maxHeartbeats 400000 in
theorem impl_CoinsForSeal (k o l m p : Int) (w : World) :
    Calls Try.prog 11 #[.agg #[.int .i64 k, .int .i64 o, .int .i64 l, .int .i64 m, .int .i64 p]] w fun e w' => e = .returned (.tuple #[.int .i64 (ctSeal k o l m p), .bool (ctOk k o l m p)]) ∧ Below w.heap.size w w' := by
  cases hok : ctOk k o l m p with
  | false =>
    have HS := Lib.hid (ctSeal_no hok)
    have HK := Lib.hid hok; clear hok
    go_enter Try.func11, Try.ntmps11
    go_wp2_with fail
    refine (impl_IsValidContest k o l m p _).mono ?_
    rintro e w1 ⟨rfl, hb⟩
    rw [HK.out]
    go_wp2_with fail
    go_ret2
    exact ⟨ret_int_bool (by first | (rw [HS.out]; done) | (rw [HS.out]; rfl) | exact HS.out.symm) rfl, (by (repeat (first | exact Below.refl _ _ | assumption | refine Below.drew ?_ | refine Below.alloc ?_ (by first | (simp; done) | (simp; omega)) _ | refine Below.setCell ?_ (by first | (simp; done) | (simp; omega)) _)) : Below w.heap.size w (w.alloc _)).trans (hb.mono (by simp))⟩
  | true =>
    have HS := Lib.hid (ctSeal_yes hok)
    have HK := Lib.hid hok; clear hok
    go_enter Try.func11, Try.ntmps11
    go_wp2_with fail
    refine (impl_IsValidContest k o l m p _).mono ?_
    rintro e w1 ⟨rfl, hb⟩
    rw [HK.out]
    obtain ⟨hc, hf⟩ := bcell hb
    go_wp2_with fail
    refine (impl_coins k o l m p _ HK.out).mono ?_
    rintro e w2 ⟨rfl, hb2⟩
    go_wp2_with fail
    go_ret2
    exact ⟨ret_int_bool (by first | (rw [HS.out]; done) | (rw [HS.out]; rfl) | exact HS.out.symm) rfl, ((by (repeat (first | exact Below.refl _ _ | assumption | refine Below.drew ?_ | refine Below.alloc ?_ (by first | (simp; done) | (simp; omega)) _ | refine Below.setCell ?_ (by first | (simp; done) | (simp; omega)) _)) : Below w.heap.size w (w.alloc _)).trans (hb.mono (by simp))).trans (hb2.mono (by have := hb.size; simp at this; omega))⟩
set_option maxHeartbeats 1000000 in
theorem law_CoinsForSeal (k o l m p : Int) (w : World) :
    Calls Try.prog 3 #[.agg #[.int .i64 k, .int .i64 o, .int .i64 l, .int .i64 m, .int .i64 p]] w fun e w' => e = .returned (.bool true) ∧ Below w.heap.size w w' := by
  go_enter Try.func3, Try.ntmps3
  go_wp2_with fail
  refine (laws_toContest k o l m p _).mono ?_
  rintro e w1 ⟨rfl, hb⟩
  go_wp2_with fail
  refine (spec_CoinsForSeal k o l m p _).mono ?_
  rintro e w2 ⟨rfl, hb2⟩
  have h1 := hb.size
  have h2 := hb2.size
  have hB := (hb.mono (B' := w.heap.size + 1) (by simp)).trans (hb2.mono (by simp at h1; omega))
  obtain ⟨hc, hf⟩ := bcell hB
  go_wp2_with fail
  refine (laws_toContest k o l m p _).mono ?_
  rintro e w3 ⟨rfl, hb3⟩
  have h3 := hb3.size
  clear hc hf
  go_wp2_with fail
  refine (impl_CoinsForSeal k o l m p _).mono ?_
  rintro e w4 ⟨rfl, hb4⟩
  go_wp2_with fail
  go_ret
  refine ⟨rfl, (by (repeat (first | exact Below.refl _ _ | assumption | refine Below.drew ?_ | refine Below.alloc ?_ (by first | (simp; done) | (simp; omega)) _ | refine Below.setCell ?_ (by first | (simp; done) | (simp; omega)) _)) : Below w.heap.size w (w.alloc _)).trans ((hB.mono (by simp)).trans ((hb3.mono (by simp at h1; omega)).trans (hb4.mono (by simp at h1; omega))))⟩
end Go.Proofs.Ytlkhkoemfmjloaa
