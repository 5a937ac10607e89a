/- Walks: HashLabelled of the reference. -/
import Derived.Test.YtapfceghgkmgoaaBa
namespace Go.Proofs.Ytapfceghgkmgoaa
open Go.RowKit
set_option linter.unusedSimpArgs false
set_option linter.unusedVariables false

def l3B (s : ByteArray) (l : List Int) (m : Nat) : Bool := decide (s.size ≤ 40) && (l.all digestB && decide (1 + s.size + l.length + m ≤ 400))
theorem l3B_labelled (s : ByteArray) (l : List Int) : l3B s l 0 = labelledB s l := by
  unfold l3B labelledB hashable
  rw [List.all_append, List.length_append, lab_length]
  by_cases h : s.size ≤ 40
  · rw [lab_all _ (by omega), decide_eq_true h, Bool.true_and, Bool.true_and]
    cases l.all digestB with
    | false => simp
    | true =>
      rw [Bool.true_and, Bool.and_true, Bool.eq_iff_iff]
      simp only [Bool.and_eq_true, decide_eq_true_iff]
      omega
  · rw [decide_eq_false h, Bool.false_and, decide_eq_false (fun hh => h hh.1), Bool.false_and]
set_option maxHeartbeats 1000000 in
theorem spec_l3Label (s : ByteArray) (v : Value) (l : List Int) (m : Nat) (w : World) (h : Ints w v l) (hs : s.size ≤ 1000000) (hl : l.length ≤ 1000000000) (hm : m ≤ 1000) :
    Calls Try.prog 185 #[.string s, v, .int .i64 (m : Int)] w fun e w' => e = .returned (.bool (l3B s l m)) ∧ Below w.heap.size w w' := by
  obtain ⟨a, n, c, rfl⟩ := h.shape
  have e := h.len
  have H := Lib.hid h; clear h
  (obtain ⟨q1, h_q⟩ : ∃ b_q, decide ((s.size : Int) ≤ 40) = b_q := ⟨_, rfl⟩); have H1 := Lib.hid h_q; clear h_q
  (obtain ⟨q2, h_q⟩ : ∃ b_q, l.all digestB = b_q := ⟨_, rfl⟩); have H2 := Lib.hid h_q; clear h_q
  (obtain ⟨q3, h_q⟩ : ∃ b_q, decide (1 + (s.size : Int) + (n : Int) + (m : Int) ≤ 400) = b_q := ⟨_, rfl⟩); have H3 := Lib.hid h_q; clear h_q
  have HR : Hid (l3B s l m = (q1 && (q2 && q3))) := by
    unfold Hid l3B
    rw [← H1.out, ← H2.out, ← H3.out, e]
    congr 1
    · rw [decide_eq_decide]; omega
    · congr 1
      rw [decide_eq_decide]; omega
  rw [HR.out]
  have e1 := H1.out
  have e3 := H3.out
  have HL : Hid ((l.all fun x => decide (0 ≤ x ∧ x ≤ 4611686018427387903)) = q2) := H2.out
  have hn : n ≤ 1000000000 := by omega
  clear e
  cases q1 with
  | false =>
    go_enter Try.func185, Try.ntmps185
    go_wp2_with fail
    go_ret
    exact ⟨rfl, Below.refl _ _⟩
  | true =>
    cases q2 with
    | false =>
      go_enter Try.func185, Try.ntmps185
      go_wp2_with fail
      refine (spec_l1All _ l _ _ _ H.out).mono ?_
      rintro e w1 ⟨rfl, rfl⟩
      rw [HL.out]
      go_wp2_with fail
      go_ret
      exact ⟨rfl, Below.refl _ _⟩
    | true =>
      go_enter Try.func185, Try.ntmps185
      go_wp2_with fail
      refine (spec_l1All _ l _ _ _ H.out).mono ?_
      rintro e w1 ⟨rfl, rfl⟩
      rw [HL.out]
      go_wp2_with fail
      go_ret
      exact ⟨rfl, Below.refl _ _⟩
set_option maxHeartbeats 1000000 in
theorem spec_HashLabelled (s : ByteArray) (v : Value) (l : List Int) (w : World) (h : Ints w v l) (hs : s.size ≤ 1000000) (hl : l.length ≤ 1000000000) :
    Calls Try.prog 93 #[.string s, v] w fun e w' => e = .returned (.tuple #[.int .i64 (labelledI s l), .bool (labelledB s l)]) ∧ Below w.heap.size w w' := by
  have H := Lib.hid h; clear h
  (obtain ⟨q1, h_q⟩ : ∃ b_q, labelledB s l = b_q := ⟨_, rfl⟩); have H1 := Lib.hid h_q; clear h_q
  have HI : Hid (labelledI s l = if q1 = true then hashOf (lab s ++ l) else 0) := by unfold Hid labelledI; rw [H1.out]
  rw [HI.out]
  go_enter Try.func93, Try.ntmps93
  go_wp2_with fail
  refine (spec_l3Label s _ l 0 _ H.out hs hl (by omega)).mono ?_
  rintro e w1 ⟨rfl, hb1⟩
  rw [l3B_labelled, H1.out]
  have HB1 := Lib.hid hb1; clear hb1
  cases q1 with
  | false =>
    go_wp2_with fail
    go_ret2
    exact ⟨ret_int_bool (by simp) H1.out.symm, HB1.out⟩
  | true =>
    have HD : Hid (l.all digestB = true ∧ l.length ≤ 400) := by
      have h := H1.out
      rw [← l3B_labelled] at h
      unfold l3B at h
      simp only [Bool.and_eq_true, decide_eq_true_iff] at h
      exact ⟨h.2.1, by omega⟩
    go_wp2_with fail
    refine (spec_hLabelled s _ l _ (H.out.below HB1.out) hs (by have := HD.out.2; omega) HD.out.1).mono ?_
    rintro e w2 ⟨rfl, hb2⟩
    have HB2 := Lib.hid (Below.next HB1.out hb2)
    clear hb2
    go_wp2_with fail
    go_ret2
    exact ⟨ret_int_bool (by simp) H1.out.symm, HB2.out⟩
end Go.Proofs.Ytapfceghgkmgoaa
