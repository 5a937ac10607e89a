/- Walks: MergeHeads. -/
import Derived.Test.YtaobocbbaoanhaaMerge6h
namespace Go.Proofs.Ytaobocbbaoanhaa
open Go.RowKit
set_option linter.unusedSimpArgs false
set_option linter.unusedVariables false

def mhB (a b : List HeadD) : Bool := headsB a && (headsB b && decide ((mergeL a b).length ≤ 20))
def mhL (a b : List HeadD) : List HeadD := if mhB a b = true then mergeL a b else []
theorem le_sum_of_mem : ∀ {l : List Nat} {x : Nat}, x ∈ l → x ≤ l.sum
  | [], _, h => by simp at h
  | a :: l, x, h => by
    rw [List.sum_cons]
    rcases List.mem_cons.1 h with rfl | h
    · omega
    · have := le_sum_of_mem h; omega
theorem headsB_small {ds : List HeadD} (h : (szHeadS ds : Int) ≤ 1000000000) (hb : headsB ds = true) : smallH ds := by
  unfold headsB at hb
  simp only [Bool.and_eq_true, decide_eq_true_eq] at hb
  refine ⟨by omega, fun d hd => ?_⟩
  have : szHead d ≤ (ds.map szHead).sum := le_sum_of_mem (List.mem_map.2 ⟨d, hd, rfl⟩)
  unfold szHeadS at h
  omega
set_option maxHeartbeats 2000000 in
theorem impl_MergeHeads (va : Value) (a : List HeadD) (vb : Value) (b : List HeadD) (w : World) (hza : (szHeadS a : Int) ≤ 1000000000) (ha : (kR 32 rHead).rd w va a) (hzb : (szHeadS b : Int) ≤ 1000000000) (hb : (kR 32 rHead).rd w vb b) :
    Calls Try.prog 24 #[va, vb] w fun e w' => ∃ v', e = .returned (.tuple #[v', .bool (mhB a b)]) ∧ (kR 32 rHead).own w' w.heap.size w'.heap.size v' (mhL a b) ∧ Below w.heap.size w w' := by
  obtain ⟨q1, h1⟩ : ∃ q, headsB a = q := ⟨_, rfl⟩
  obtain ⟨q2, h2⟩ : ∃ q, headsB b = q := ⟨_, rfl⟩
  obtain ⟨q3, h3⟩ : ∃ q, decide ((mergeL a b).length ≤ 20) = q := ⟨_, rfl⟩
  have hB : mhB a b = (q1 && (q2 && q3)) := by unfold mhB; rw [h1, h2, h3]
  have HL1 : Hid ((q1 && (q2 && q3)) = true → mhL a b = mergeL a b) := fun e => by unfold mhL; rw [hB, e, if_pos rfl]
  have HL0 : Hid ((q1 && (q2 && q3)) = false → mhL a b = []) := fun e => by unfold mhL; rw [hB, e]; rfl
  have H1 := Lib.hid h1; have H2 := Lib.hid h2; have H3 := Lib.hid h3
  have HA : Hid (RdR rHead w va a) := ha
  have HB : Hid (RdR rHead w vb b) := hb
  obtain ⟨a1, n1, c1, rfl⟩ := HA.out.shape
  obtain ⟨a2, n2, c2, rfl⟩ := HB.out.shape
  rw [hB]
  clear h1 h2 h3 hB ha hb
  rcases (by cases q1 <;> cases q2 <;> cases q3 <;> simp : q1 = false ∨ (q1 = true ∧ q2 = false) ∨ (q1 = true ∧ q2 = true ∧ q3 = false) ∨ (q1 = true ∧ q2 = true ∧ q3 = true)) with rfl | ⟨rfl, rfl⟩ | ⟨rfl, rfl, rfl⟩ | ⟨rfl, rfl, rfl⟩
  · rw [HL0.out (by rfl)]
    go_enter Try.func24, Try.ntmps24
    go_wp2_with fail
    refine (impl_areHeads _ a _ HA.out).mono ?_
    rintro e w1 ⟨rfl, hb1⟩
    rw [H1.out]
    go_wp2_with fail
    go_ret2
    exact ⟨_, rfl, OwnR.nil _ _ _ _ _, hb1⟩
  · rw [HL0.out (by rfl)]
    go_enter Try.func24, Try.ntmps24
    go_wp2_with fail
    refine (impl_areHeads _ a _ HA.out).mono ?_
    rintro e w1 ⟨rfl, hb1⟩
    rw [H1.out]
    go_wp2_with fail
    refine (impl_areHeads _ b _ (HB.out.below hb1)).mono ?_
    rintro e w2 ⟨rfl, hb2⟩
    rw [H2.out]
    have HB2 := Lib.hid (Below.next hb1 hb2); clear hb1 hb2
    go_wp2_with fail
    go_ret2
    exact ⟨_, rfl, OwnR.nil _ _ _ _ _, HB2.out⟩
  all_goals
    have hsa := headsB_small hza H1.out
    have hsb := headsB_small hzb H2.out
    have HSA := Lib.hid hsa; have HSB := Lib.hid hsb
    clear hsa hsb
    go_enter Try.func24, Try.ntmps24
    go_wp2_with fail
    refine (impl_areHeads _ a _ HA.out).mono ?_
    rintro e w1 ⟨rfl, hb1⟩
    rw [H1.out]
    go_wp2_with fail
    refine (impl_areHeads _ b _ (HB.out.below hb1)).mono ?_
    rintro e w2 ⟨rfl, hb2⟩
    rw [H2.out]
    have HB2 := Lib.hid (Below.next hb1 hb2); clear hb1 hb2
    go_wp2_with fail
    refine (impl_mergeHeads _ a _ b _ HSA.out (HA.out.below HB2.out) HSB.out (HB.out.below HB2.out)).mono ?_
    rintro e w3 ⟨v3, rfl, hO, hb3⟩
    rw [H3.out]
    have HM : Hid (OwnR 32 rHead w3 w2.heap.size w3.heap.size v3 _) := hO
    have HB3 := Lib.hid (Below.next HB2.out hb3); clear hb3 hO
    have hs2 := HB2.out.size
    go_wp2_with fail
    go_ret2
    first
      | (rw [HL0.out (by rfl)]; exact ⟨_, rfl, OwnR.nil _ _ _ _ _, HB3.out⟩)
      | (rw [HL1.out (by rfl)]; exact ⟨_, rfl, (kR 32 rHead).own_mono HM.out hs2 (Nat.le_refl _), HB3.out⟩)
      | (have e3 := of_decide_eq_false H3.out; have hm := HM.out; rw [if_neg e3] at hm; rw [HL0.out (by rfl)]; exact ⟨_, rfl, (kR 32 rHead).own_mono hm hs2 (Nat.le_refl _), HB3.out⟩)
      | (have e3 := of_decide_eq_true H3.out; have hm := HM.out; rw [if_pos e3] at hm; rw [HL1.out (by rfl)]; exact ⟨_, rfl, (kR 32 rHead).own_mono hm hs2 (Nat.le_refl _), HB3.out⟩)
      | fail
set_option maxHeartbeats 2000000 in
theorem spec_MergeHeads (va : Value) (a : List HeadD) (vb : Value) (b : List HeadD) (w : World) (hza : (szHeadS a : Int) ≤ 1000000000) (ha : (kR 32 rHead).rd w va a) (hzb : (szHeadS b : Int) ≤ 1000000000) (hb : (kR 32 rHead).rd w vb b) :
    Calls Try.prog 22 #[va, vb] w fun e w' => ∃ v', e = .returned (.tuple #[v', .bool (mhB a b)]) ∧ (kR 32 rHead).own w' w.heap.size w'.heap.size v' (mhL a b) ∧ Below w.heap.size w w' := by
  obtain ⟨q1, h1⟩ : ∃ q, headsB a = q := ⟨_, rfl⟩
  obtain ⟨q2, h2⟩ : ∃ q, headsB b = q := ⟨_, rfl⟩
  obtain ⟨q3, h3⟩ : ∃ q, decide ((mergeL a b).length ≤ 20) = q := ⟨_, rfl⟩
  have hB : mhB a b = (q1 && (q2 && q3)) := by unfold mhB; rw [h1, h2, h3]
  have HL1 : Hid ((q1 && (q2 && q3)) = true → mhL a b = mergeL a b) := fun e => by unfold mhL; rw [hB, e, if_pos rfl]
  have HL0 : Hid ((q1 && (q2 && q3)) = false → mhL a b = []) := fun e => by unfold mhL; rw [hB, e]; rfl
  have H1 := Lib.hid h1; have H2 := Lib.hid h2; have H3 := Lib.hid h3
  have HA : Hid (RdR rHead w va a) := ha
  have HB : Hid (RdR rHead w vb b) := hb
  obtain ⟨a1, n1, c1, rfl⟩ := HA.out.shape
  obtain ⟨a2, n2, c2, rfl⟩ := HB.out.shape
  rw [hB]
  clear h1 h2 h3 hB ha hb
  rcases (by cases q1 <;> cases q2 <;> cases q3 <;> simp : q1 = false ∨ (q1 = true ∧ q2 = false) ∨ (q1 = true ∧ q2 = true ∧ q3 = false) ∨ (q1 = true ∧ q2 = true ∧ q3 = true)) with rfl | ⟨rfl, rfl⟩ | ⟨rfl, rfl, rfl⟩ | ⟨rfl, rfl, rfl⟩
  · rw [HL0.out (by rfl)]
    go_enter Try.func22, Try.ntmps22
    go_wp2_with fail
    refine (spec_fHeads _ a _ HA.out).mono ?_
    rintro e w1 ⟨rfl, hb1⟩
    rw [H1.out]
    go_wp2_with fail
    go_ret2
    exact ⟨_, rfl, OwnR.nil _ _ _ _ _, hb1⟩
  · rw [HL0.out (by rfl)]
    go_enter Try.func22, Try.ntmps22
    go_wp2_with fail
    refine (spec_fHeads _ a _ HA.out).mono ?_
    rintro e w1 ⟨rfl, hb1⟩
    rw [H1.out]
    go_wp2_with fail
    refine (spec_fHeads _ b _ (HB.out.below hb1)).mono ?_
    rintro e w2 ⟨rfl, hb2⟩
    rw [H2.out]
    have HB2 := Lib.hid (Below.next hb1 hb2); clear hb1 hb2
    go_wp2_with fail
    go_ret2
    exact ⟨_, rfl, OwnR.nil _ _ _ _ _, HB2.out⟩
  all_goals
    have hsa := headsB_small hza H1.out
    have hsb := headsB_small hzb H2.out
    have HSA := Lib.hid hsa; have HSB := Lib.hid hsb
    clear hsa hsb
    go_enter Try.func22, Try.ntmps22
    go_wp2_with fail
    refine (spec_fHeads _ a _ HA.out).mono ?_
    rintro e w1 ⟨rfl, hb1⟩
    rw [H1.out]
    go_wp2_with fail
    refine (spec_fHeads _ b _ (HB.out.below hb1)).mono ?_
    rintro e w2 ⟨rfl, hb2⟩
    rw [H2.out]
    have HB2 := Lib.hid (Below.next hb1 hb2); clear hb1 hb2
    go_wp2_with fail
    refine (spec_fMerge _ a _ b _ HSA.out (HA.out.below HB2.out) HSB.out (HB.out.below HB2.out)).mono ?_
    rintro e w3 ⟨v3, rfl, hO, hb3⟩
    rw [H3.out]
    have HM : Hid (OwnR 32 rHead w3 w2.heap.size w3.heap.size v3 _) := hO
    have HB3 := Lib.hid (Below.next HB2.out hb3); clear hb3 hO
    have hs2 := HB2.out.size
    go_wp2_with fail
    go_ret2
    first
      | (rw [HL0.out (by rfl)]; exact ⟨_, rfl, OwnR.nil _ _ _ _ _, HB3.out⟩)
      | (rw [HL1.out (by rfl)]; exact ⟨_, rfl, (kR 32 rHead).own_mono HM.out hs2 (Nat.le_refl _), HB3.out⟩)
      | fail
end Go.Proofs.Ytaobocbbaoanhaa
