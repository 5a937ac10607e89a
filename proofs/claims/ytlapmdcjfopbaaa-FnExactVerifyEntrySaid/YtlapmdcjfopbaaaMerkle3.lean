/- Walks: InclusionPath and ConsistencyPath (printed by gen_merkle3.py). -/
import Derived.Test.YtlapmdcjfopbaaaMerkle2
namespace Go.Proofs.Ytlapmdcjfopbaaa
open Go.RowKit
set_option linter.unusedSimpArgs false
set_option linter.unusedVariables false

/-- leaves -/
def goodL (l : List Int) : Bool := decide (l.length ≤ 64) && l.all digestB
theorem goodL_yes {l : List Int} (h : goodL l = true) : l.length ≤ 64 ∧ l.all digestB = true := by
  unfold goodL at h; rw [Bool.and_eq_true, decide_eq_true_iff] at h; exact h
def incB (l : List Int) (i : Int) : Bool := goodL l && decide (0 ≤ i ∧ i ≤ (l.length : Int) - 1)
def incL (l : List Int) (i : Int) : List Int := if incB l i = true then pathN 65 l i.toNat else []
theorem incL_length (l : List Int) (i : Int) : (incL l i).length ≤ 65 := by
  unfold incL; split
  · exact pathN_length
  · simp
def conB (l : List Int) (m : Int) : Bool := goodL l && decide (1 ≤ m ∧ m ≤ (l.length : Int))
def conL (l : List Int) (m : Int) : List Int := if conB l m = true then consN 65 m.toNat l true else []
theorem conL_length (l : List Int) (m : Int) : (conL l m).length ≤ 65 := by
  unfold conL; split
  · exact consN_length
  · simp
set_option maxHeartbeats 400000 in
theorem impl_areLeaves (v : Value) (l : List Int) (w : World) (h : Ints w v l) :
    Calls Try.prog 148 #[v] w fun e w' => e = .returned (.bool (goodL l)) ∧ Below w.heap.size w w' := by
  obtain ⟨a, n, c, rfl⟩ := h.shape
  have e := h.len
  have k := h.capMax
  unfold maxLen at k
  obtain ⟨k1, k2⟩ := k
  by_cases hn : n ≤ 64
  · have HR : Hid (goodL l = l.all digestB) := by unfold Hid goodL; rw [e]; simp [hn]
    clear e
    have H := Lib.hid h; clear h
    have hn' : decide ((n : Int) ≤ 64) = true := by simp; omega
    go_enter Try.func148, Try.ntmps148
    go_wp2_with fail
    refine (impl_areAll _ l 154 #[] digestB _ H.out (decides_isDigest _)).mono ?_; rintro e w1 ⟨rfl, hb⟩
    go_wp2_with fail
    go_ret
    exact ⟨ret_bool (by first | (rw [HR.out]; done) | (rw [HR.out]; rfl) | exact HR.out.symm), hb⟩
  · have HR : Hid (goodL l = false) := by unfold Hid goodL; rw [e]; simp [hn]
    clear e
    have H := Lib.hid h; clear h
    have hn' : decide ((n : Int) ≤ 64) = false := by simp; omega
    go_enter Try.func148, Try.ntmps148
    go_wp2_with fail
    go_ret
    exact ⟨ret_bool (by first | (rw [HR.out]; done) | (rw [HR.out]; rfl) | exact HR.out.symm), Below.refl _ _⟩
set_option maxHeartbeats 400000 in
theorem spec_kGood (v : Value) (l : List Int) (w : World) (h : Ints w v l) :
    Calls Try.prog 151 #[v] w fun e w' => e = .returned (.bool (goodL l)) ∧ Below w.heap.size w w' := by
  obtain ⟨a, n, c, rfl⟩ := h.shape
  have e := h.len
  have k := h.capMax
  unfold maxLen at k
  obtain ⟨k1, k2⟩ := k
  by_cases hn : n ≤ 64
  · have HR : Hid (goodL l = l.all digestB) := by unfold Hid goodL; rw [e]; simp [hn]
    clear e
    have H := Lib.hid h; clear h
    have hn' : decide ((n : Int) ≤ 64) = true := by simp; omega
    go_enter Try.func151, Try.ntmps151
    go_wp2_with fail
    refine (spec_l1All _ l _ _ _ H.out).mono ?_; rintro e w1 ⟨rfl, rfl⟩; rw [show (l.all fun x => decide (0 ≤ x ∧ x ≤ 4611686018427387903)) = goodL l from HR.out.symm]
    go_wp2_with fail
    go_ret
    exact ⟨ret_bool rfl, Below.refl _ _⟩
  · have HR : Hid (goodL l = false) := by unfold Hid goodL; rw [e]; simp [hn]
    clear e
    have H := Lib.hid h; clear h
    have hn' : decide ((n : Int) ≤ 64) = false := by simp; omega
    go_enter Try.func151, Try.ntmps151
    go_wp2_with fail
    go_ret
    exact ⟨ret_bool (by first | (rw [HR.out]; done) | (rw [HR.out]; rfl) | exact HR.out.symm), Below.refl _ _⟩
set_option maxHeartbeats 1000000 in
theorem impl_InclusionPath (v : Value) (l : List Int) (i : Int) (w : World) (h : Ints w v l) :
    Calls Try.prog 52 #[v, .int .i64 i] w fun e w' => ∃ v', e = .returned (.tuple #[v', .bool (incB l i)]) ∧ InI w' w.heap.size w'.heap.size v' (incL l i) ∧ Below w.heap.size w w' := by
  obtain ⟨a, n, c, rfl⟩ := h.shape
  have e := h.len
  obtain ⟨k1, k2⟩ := h.capMax
  unfold maxLen at k2
  have H := Lib.hid h; clear h
  cases hg : goodL l with
  | false =>
    have HB : Hid (incB l i = false) := by unfold Hid incB; rw [hg]; rfl
    have HL : Hid (incL l i = []) := by unfold Hid incL; rw [HB.out, if_neg (by simp)]
    have HG := Lib.hid hg; clear hg
    go_enter Try.func52, Try.ntmps52
    go_wp2_with fail
    refine (impl_areLeaves _ l _ H.out).mono ?_; rintro e w1 ⟨rfl, hb1⟩
    rw [HG.out]
    go_wp2_with fail
    go_ret2
    exact ⟨.slice none 0 0, (by rw [HB.out]; rfl), by rw [HL.out]; exact InI.of_own (OwnI.nil _ _), hb1⟩
  | true =>
    obtain ⟨g1, g2⟩ := goodL_yes hg
    rw [e] at g1
    have HG := Lib.hid hg
    have HD := Lib.hid g2; clear g2
    have HE := Lib.hid e
    have ew : IntKind.i64.wrap ((n : Int) - 1) = (n : Int) - 1 := IntWalk.i64_in _ (by omega)
    cases hq : decide (0 ≤ i ∧ i ≤ (n : Int) - 1) with
    | false =>
      have HB : Hid (incB l i = false) := by unfold Hid incB; rw [hg, e, hq]; rfl
      have HL : Hid (incL l i = []) := by unfold Hid incL; rw [HB.out, if_neg (by simp)]
      have HQ := Lib.hid hq; clear hq hg e
      go_enter Try.func52, Try.ntmps52
      go_wp2_with fail
      refine (impl_areLeaves _ l _ H.out).mono ?_; rintro e w1 ⟨rfl, hb1⟩
      rw [HG.out]
      go_wp2_with fail
      refine (impl_within _ _ _ _).mono ?_; rintro e w2 ⟨rfl, rfl⟩
      rw [HQ.out]
      go_wp2_with fail
      go_ret2
      exact ⟨.slice none 0 0, (by rw [HB.out]; rfl), by rw [HL.out]; exact InI.of_own (OwnI.nil _ _), hb1⟩
    | true =>
      have HB : Hid (incB l i = true) := by unfold Hid incB; rw [hg, e, hq]; rfl
      have HL : Hid (incL l i = pathN 65 l i.toNat) := by unfold Hid incL; rw [HB.out, if_pos rfl]
      obtain ⟨q1, q2⟩ := of_decide_eq_true hq
      have HQ := Lib.hid hq; clear hq hg e
      go_enter Try.func52, Try.ntmps52
      go_wp2_with fail
      refine (impl_areLeaves _ l _ H.out).mono ?_; rintro e w1 ⟨rfl, hb1⟩
      rw [HG.out]
      go_wp2_with fail
      refine (impl_within _ _ _ _).mono ?_; rintro e w2 ⟨rfl, rfl⟩
      rw [HQ.out]
      go_wp2_with fail
      refine (impl_pathOf 65 _ l i _ (H.out.below hb1) (by rw [HE.out]; omega) (by rw [HE.out]; omega) HD.out (by omega) (by rw [HE.out]; omega) (Nat.le_refl _)).mono ?_
      rintro e w2 ⟨v', rfl, hO, hb2⟩
      go_wp2_with fail
      go_ret2
      exact ⟨v', (by rw [HB.out]; rfl), by rw [HL.out]; exact InI.of_own (hO.mono hb1.size), hb1.trans (hb2.mono hb1.size)⟩
set_option maxHeartbeats 1000000 in
theorem impl_ConsistencyPath (v : Value) (l : List Int) (i : Int) (w : World) (h : Ints w v l) :
    Calls Try.prog 60 #[v, .int .i64 i] w fun e w' => ∃ v', e = .returned (.tuple #[v', .bool (conB l i)]) ∧ InI w' w.heap.size w'.heap.size v' (conL l i) ∧ Below w.heap.size w w' := by
  obtain ⟨a, n, c, rfl⟩ := h.shape
  have e := h.len
  obtain ⟨k1, k2⟩ := h.capMax
  unfold maxLen at k2
  have H := Lib.hid h; clear h
  cases hg : goodL l with
  | false =>
    have HB : Hid (conB l i = false) := by unfold Hid conB; rw [hg]; rfl
    have HL : Hid (conL l i = []) := by unfold Hid conL; rw [HB.out, if_neg (by simp)]
    have HG := Lib.hid hg; clear hg
    go_enter Try.func60, Try.ntmps60
    go_wp2_with fail
    refine (impl_areLeaves _ l _ H.out).mono ?_; rintro e w1 ⟨rfl, hb1⟩
    rw [HG.out]
    go_wp2_with fail
    go_ret2
    exact ⟨.slice none 0 0, (by rw [HB.out]; rfl), by rw [HL.out]; exact InI.of_own (OwnI.nil _ _), hb1⟩
  | true =>
    obtain ⟨g1, g2⟩ := goodL_yes hg
    rw [e] at g1
    have HG := Lib.hid hg
    have HD := Lib.hid g2; clear g2
    have HE := Lib.hid e
    have ew : IntKind.i64.wrap ((n : Int) - 1) = (n : Int) - 1 := IntWalk.i64_in _ (by omega)
    cases hq : decide (1 ≤ i ∧ i ≤ (n : Int)) with
    | false =>
      have HB : Hid (conB l i = false) := by unfold Hid conB; rw [hg, e, hq]; rfl
      have HL : Hid (conL l i = []) := by unfold Hid conL; rw [HB.out, if_neg (by simp)]
      have HQ := Lib.hid hq; clear hq hg e
      go_enter Try.func60, Try.ntmps60
      go_wp2_with fail
      refine (impl_areLeaves _ l _ H.out).mono ?_; rintro e w1 ⟨rfl, hb1⟩
      rw [HG.out]
      go_wp2_with fail
      refine (impl_within _ _ _ _).mono ?_; rintro e w2 ⟨rfl, rfl⟩
      rw [HQ.out]
      go_wp2_with fail
      go_ret2
      exact ⟨.slice none 0 0, (by rw [HB.out]; rfl), by rw [HL.out]; exact InI.of_own (OwnI.nil _ _), hb1⟩
    | true =>
      have HB : Hid (conB l i = true) := by unfold Hid conB; rw [hg, e, hq]; rfl
      have HL : Hid (conL l i = consN 65 i.toNat l true) := by unfold Hid conL; rw [HB.out, if_pos rfl]
      obtain ⟨q1, q2⟩ := of_decide_eq_true hq
      have HQ := Lib.hid hq; clear hq hg e
      go_enter Try.func60, Try.ntmps60
      go_wp2_with fail
      refine (impl_areLeaves _ l _ H.out).mono ?_; rintro e w1 ⟨rfl, hb1⟩
      rw [HG.out]
      go_wp2_with fail
      refine (impl_within _ _ _ _).mono ?_; rintro e w2 ⟨rfl, rfl⟩
      rw [HQ.out]
      go_wp2_with fail
      refine (impl_prefixPath 65 i _ l true _ (H.out.below hb1) (by rw [HE.out]; omega) (by rw [HE.out]; omega) HD.out (by omega) (by rw [HE.out]; omega) (Nat.le_refl _)).mono ?_
      rintro e w2 ⟨v', rfl, hO, hb2⟩
      go_wp2_with fail
      go_ret2
      exact ⟨v', (by rw [HB.out]; rfl), by rw [HL.out]; exact InI.of_own (hO.mono hb1.size), hb1.trans (hb2.mono hb1.size)⟩
set_option maxHeartbeats 1000000 in
theorem spec_InclusionPath (v : Value) (l : List Int) (i : Int) (w : World) (h : Ints w v l) :
    Calls Try.prog 53 #[v, .int .i64 i] w fun e w' => ∃ v', e = .returned (.tuple #[v', .bool (incB l i)]) ∧ InI w' w.heap.size w'.heap.size v' (incL l i) ∧ Below w.heap.size w w' := by
  obtain ⟨a, n, c, rfl⟩ := h.shape
  have e := h.len
  obtain ⟨k1, k2⟩ := h.capMax
  unfold maxLen at k2
  have H := Lib.hid h; clear h
  cases hg : goodL l with
  | false =>
    have HB : Hid (incB l i = false) := by unfold Hid incB; rw [hg]; rfl
    have HL : Hid (incL l i = []) := by unfold Hid incL; rw [HB.out, if_neg (by simp)]
    have HG := Lib.hid hg; clear hg
    go_enter Try.func53, Try.ntmps53
    go_wp2_with fail
    refine (spec_kGood _ l _ H.out).mono ?_; rintro e w1 ⟨rfl, hb1⟩
    rw [HG.out]
    go_wp2_with fail
    go_ret2
    exact ⟨.slice none 0 0, (by rw [HB.out]; rfl), by rw [HL.out]; exact InI.of_own (OwnI.nil _ _), hb1⟩
  | true =>
    obtain ⟨g1, g2⟩ := goodL_yes hg
    rw [e] at g1
    have HG := Lib.hid hg
    have HD := Lib.hid g2; clear g2
    have HE := Lib.hid e
    have ew : IntKind.i64.wrap ((n : Int) - 1) = (n : Int) - 1 := IntWalk.i64_in _ (by omega)
    cases hq : decide (0 ≤ i ∧ i ≤ (n : Int) - 1) with
    | false =>
      have HB : Hid (incB l i = false) := by unfold Hid incB; rw [hg, e, hq]; rfl
      have HL : Hid (incL l i = []) := by unfold Hid incL; rw [HB.out, if_neg (by simp)]
      have HQ := Lib.hid hq; clear hq hg e
      go_enter Try.func53, Try.ntmps53
      go_wp2_with fail
      refine (spec_kGood _ l _ H.out).mono ?_; rintro e w1 ⟨rfl, hb1⟩
      rw [HG.out]
      go_wp2_with fail
      refine (spec_l1In _ _ _ _).mono ?_; rintro e w2 ⟨rfl, rfl⟩
      rw [HQ.out]
      go_wp2_with fail
      go_ret2
      exact ⟨.slice none 0 0, (by rw [HB.out]; rfl), by rw [HL.out]; exact InI.of_own (OwnI.nil _ _), hb1⟩
    | true =>
      have HB : Hid (incB l i = true) := by unfold Hid incB; rw [hg, e, hq]; rfl
      have HL : Hid (incL l i = pathN 65 l i.toNat) := by unfold Hid incL; rw [HB.out, if_pos rfl]
      obtain ⟨q1, q2⟩ := of_decide_eq_true hq
      have HQ := Lib.hid hq; clear hq hg e
      go_enter Try.func53, Try.ntmps53
      go_wp2_with fail
      refine (spec_kGood _ l _ H.out).mono ?_; rintro e w1 ⟨rfl, hb1⟩
      rw [HG.out]
      go_wp2_with fail
      refine (spec_l1In _ _ _ _).mono ?_; rintro e w2 ⟨rfl, rfl⟩
      rw [HQ.out]
      go_wp2_with fail
      refine (spec_kPath 65 _ l i _ (H.out.below hb1) (by rw [HE.out]; omega) (by rw [HE.out]; omega) HD.out (by omega) (by rw [HE.out]; omega) (Nat.le_refl _)).mono ?_
      rintro e w2 ⟨v', rfl, hO, hb2⟩
      go_wp2_with fail
      go_ret2
      exact ⟨v', (by rw [HB.out]; rfl), by rw [HL.out]; exact InI.of_own (hO.mono hb1.size), hb1.trans (hb2.mono hb1.size)⟩
set_option maxHeartbeats 1000000 in
theorem spec_ConsistencyPath (v : Value) (l : List Int) (i : Int) (w : World) (h : Ints w v l) :
    Calls Try.prog 61 #[v, .int .i64 i] w fun e w' => ∃ v', e = .returned (.tuple #[v', .bool (conB l i)]) ∧ InI w' w.heap.size w'.heap.size v' (conL l i) ∧ Below w.heap.size w w' := by
  obtain ⟨a, n, c, rfl⟩ := h.shape
  have e := h.len
  obtain ⟨k1, k2⟩ := h.capMax
  unfold maxLen at k2
  have H := Lib.hid h; clear h
  cases hg : goodL l with
  | false =>
    have HB : Hid (conB l i = false) := by unfold Hid conB; rw [hg]; rfl
    have HL : Hid (conL l i = []) := by unfold Hid conL; rw [HB.out, if_neg (by simp)]
    have HG := Lib.hid hg; clear hg
    go_enter Try.func61, Try.ntmps61
    go_wp2_with fail
    refine (spec_kGood _ l _ H.out).mono ?_; rintro e w1 ⟨rfl, hb1⟩
    rw [HG.out]
    go_wp2_with fail
    go_ret2
    exact ⟨.slice none 0 0, (by rw [HB.out]; rfl), by rw [HL.out]; exact InI.of_own (OwnI.nil _ _), hb1⟩
  | true =>
    obtain ⟨g1, g2⟩ := goodL_yes hg
    rw [e] at g1
    have HG := Lib.hid hg
    have HD := Lib.hid g2; clear g2
    have HE := Lib.hid e
    have ew : IntKind.i64.wrap ((n : Int) - 1) = (n : Int) - 1 := IntWalk.i64_in _ (by omega)
    cases hq : decide (1 ≤ i ∧ i ≤ (n : Int)) with
    | false =>
      have HB : Hid (conB l i = false) := by unfold Hid conB; rw [hg, e, hq]; rfl
      have HL : Hid (conL l i = []) := by unfold Hid conL; rw [HB.out, if_neg (by simp)]
      have HQ := Lib.hid hq; clear hq hg e
      go_enter Try.func61, Try.ntmps61
      go_wp2_with fail
      refine (spec_kGood _ l _ H.out).mono ?_; rintro e w1 ⟨rfl, hb1⟩
      rw [HG.out]
      go_wp2_with fail
      refine (spec_l1In _ _ _ _).mono ?_; rintro e w2 ⟨rfl, rfl⟩
      rw [HQ.out]
      go_wp2_with fail
      go_ret2
      exact ⟨.slice none 0 0, (by rw [HB.out]; rfl), by rw [HL.out]; exact InI.of_own (OwnI.nil _ _), hb1⟩
    | true =>
      have HB : Hid (conB l i = true) := by unfold Hid conB; rw [hg, e, hq]; rfl
      have HL : Hid (conL l i = consN 65 i.toNat l true) := by unfold Hid conL; rw [HB.out, if_pos rfl]
      obtain ⟨q1, q2⟩ := of_decide_eq_true hq
      have HQ := Lib.hid hq; clear hq hg e
      go_enter Try.func61, Try.ntmps61
      go_wp2_with fail
      refine (spec_kGood _ l _ H.out).mono ?_; rintro e w1 ⟨rfl, hb1⟩
      rw [HG.out]
      go_wp2_with fail
      refine (spec_l1In _ _ _ _).mono ?_; rintro e w2 ⟨rfl, rfl⟩
      rw [HQ.out]
      go_wp2_with fail
      refine (spec_kConsistency 65 i _ l true _ (H.out.below hb1) (by rw [HE.out]; omega) (by rw [HE.out]; omega) HD.out (by omega) (by rw [HE.out]; omega) (Nat.le_refl _)).mono ?_
      rintro e w2 ⟨v', rfl, hO, hb2⟩
      go_wp2_with fail
      go_ret2
      exact ⟨v', (by rw [HB.out]; rfl), by rw [HL.out]; exact InI.of_own (hO.mono hb1.size), hb1.trans (hb2.mono hb1.size)⟩
end Go.Proofs.Ytlapmdcjfopbaaa
