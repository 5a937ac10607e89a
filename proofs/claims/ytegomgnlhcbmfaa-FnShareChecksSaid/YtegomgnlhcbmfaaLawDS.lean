/- The walk of FnShareChecks (printed by gen_lawshc.py). -/
import Derived.Test.YtegomgnlhcbmfaaDrSh5S
import Derived.Test.YtegomgnlhcbmfaaShLS
import Derived.Test.YtegomgnlhcbmfaaPow2S
import Derived.Test.YtegomgnlhcbmfaaBaS
import Derived.WalkKit
import Derived.ProofKit
import Derived.OpenShut
import Derived.JoinedCond
import Derived.Lib.SmallJoins
import Derived.Deep.Fields
import Derived.Test.YtegomgnlhcbmfaaEqIS
import Derived.Test.YtegomgnlhcbmfaaBmS
namespace Go.Proofs.Ytegomgnlhcbmfaa
open Go.RowKit
set_option linter.unusedSimpArgs false
set_option linter.unusedVariables false

theorem take_all {α : Type} {P : α → Prop} {l : List α} {k : Nat} (hk : k < l.length) (h : ∀ d ∈ l.take k, P d) (hP : P l[k]) : ∀ d ∈ l.take (k + 1), P d := by
  intro d hd
  rw [List.take_succ_eq_append_getElem hk, List.mem_append] at hd
  rcases hd with h1 | h1
  · exact h d h1
  · rw [List.mem_singleton] at h1; rw [h1]; exact hP
set_option maxRecDepth 100000 in
set_option maxHeartbeats 8000000 in
theorem law_ShareChecks (va vb : Value) (w : World) (h1 : Bytes w va) (h2 : Bytes w vb) :
    Calls Try.prog 6 #[va, vb] w fun e w' => e = .returned (.bool true) ∧ Below w.heap.size w w' := by
  obtain ⟨a, m, c, rfl, k1, k2, hv⟩ := h1
  obtain ⟨a', m', c', rfl, k3, k4, hv'⟩ := h2
  have H1 : Hid (Bytes w (.slice a m c)) := ⟨a, m, c, rfl, k1, k2, hv⟩
  have H2 : Hid (Bytes w (.slice a' m' c')) := ⟨a', m', c', rfl, k3, k4, hv'⟩
  clear hv hv'
  unfold maxLen at k2 k4
  by_cases hbig : (1048576 : Int) < wrap64 ((m : Int) + (m' : Int))
  · go_enter Try.func6, Try.ntmps6
    go_wp2_with fail
    go_ret
    exact ⟨rfl, Below.refl _ _⟩
  have HB : Hid (Below w.heap.size w w) := Below.refl _ _
  go_enter Try.func6, Try.ntmps6
  go_wp2_with fail
  try (go_wp2_with fail)
  refine (spec_DrawCheckShare _ _ (H1.out.below HB.out)).mono ?_
  rintro e u1 ⟨⟨P1a, Q1a, G1a, v1b, l1b, x1c, x1d, rfl, hgr1a, ⟨hs1b, hl1b⟩, ⟨x1cl, x1cu⟩, hi1d⟩, hb⟩
  clear hgr1a
  have HL1b := Lib.hid hs1b
  obtain ⟨a1b, n1b, c1b, rfl⟩ := hs1b.shape
  have HE1b := Lib.hid hs1b.len
  clear hs1b
  replace HB := Lib.hid (Below.next HB.out hb)
  clear hb
  obtain ⟨V2, hV⟩ : ∃ V, V = u1.alloc (.cells #[.int .i64 P1a, .int .i64 Q1a, .int .i64 G1a] 24) := ⟨_, rfl⟩
  have hbV : Below u1.heap.size u1 V2 := by rw [hV]; (repeat (first | exact Below.refl _ _ | assumption | refine Below.drew ?_ | refine Below.alloc ?_ (by first | (simp; done) | (simp; omega)) _ | refine Below.setCell ?_ (by first | (simp; done) | (simp; omega)) _))
  have HZ1 : Hid (BoxN V2 u1.heap.size 24 [.int .i64 P1a, .int .i64 Q1a, .int .i64 G1a]) := by unfold Hid; rw [hV]; have h := (BoxN.new u1 [.int .i64 P1a, .int .i64 Q1a, .int .i64 G1a] 24); simpa using h
  try (go_wp2_with fail)
  rw [← hV]
  clear hV
  replace HB := Lib.hid (Below.next HB.out hbV)
  replace HL1b := Lib.hid (HL1b.out.below hbV)
  clear hbV
  have z_0_0 := HZ1.out.cell (i := 0) rfl
  have z_0_1 := HZ1.out.cell (i := 1) rfl
  have z_0_2 := HZ1.out.cell (i := 2) rfl
  try (go_wp2_with fail)
  clear z_0_0 z_0_1 z_0_2
  refine (impl_CheckShare ⟨P1a, Q1a, G1a⟩ _ l1b x1c x1d _ HL1b.out ⟨by omega, by omega⟩ hi1d).mono ?_
  rintro e u3 ⟨rfl, hb⟩
  obtain ⟨q3a, hq3a⟩ : ∃ r, ckR ⟨P1a, Q1a, G1a⟩ l1b x1c x1d = r := ⟨_, rfl⟩
  have Hq3a := Lib.hid hq3a
  rw [hq3a]
  clear hq3a
  obtain ⟨q3b, hq3b⟩ : ∃ r, ckB ⟨P1a, Q1a, G1a⟩ l1b x1c x1d = r := ⟨_, rfl⟩
  have Hq3b := Lib.hid hq3b
  rw [hq3b]
  clear hq3b
  replace HB := Lib.hid (Below.next HB.out hb)
  replace HZ1 := Lib.hid (HZ1.out.below hb)
  replace HL1b := Lib.hid (HL1b.out.below hb)
  clear hb
  have z_0_0 := HZ1.out.cell (i := 0) rfl
  have z_0_1 := HZ1.out.cell (i := 1) rfl
  have z_0_2 := HZ1.out.cell (i := 2) rfl
  try (go_wp2_with fail)
  clear z_0_0 z_0_1 z_0_2
  refine (spec_CheckShare ⟨P1a, Q1a, G1a⟩ _ l1b x1c x1d _ HL1b.out ⟨by omega, by omega⟩ hi1d).mono ?_
  rintro e u4 ⟨rfl, hb⟩
  rw [Hq3a.out]
  rw [Hq3b.out]
  replace HB := Lib.hid (Below.next HB.out hb)
  replace HZ1 := Lib.hid (HZ1.out.below hb)
  replace HL1b := Lib.hid (HL1b.out.below hb)
  clear hb
  have z_0_0 := HZ1.out.cell (i := 0) rfl
  have z_0_1 := HZ1.out.cell (i := 1) rfl
  have z_0_2 := HZ1.out.cell (i := 2) rfl
  try (go_wp2_with fail)
  clear z_0_0 z_0_1 z_0_2
  refine (spec_DrawSumDealings _ _ (H2.out.below HB.out)).mono ?_
  rintro e u5 ⟨⟨P5a, Q5a, G5a, v5b, l5b, rfl, hgr5a, ⟨hs5b, hl5b⟩⟩, hb⟩
  clear hgr5a
  have HL5b := Lib.hid hs5b
  obtain ⟨a5b, n5b, c5b, rfl⟩ := hs5b.shape
  have HE5b := Lib.hid hs5b.len
  clear hs5b
  replace HB := Lib.hid (Below.next HB.out hb)
  replace HZ1 := Lib.hid (HZ1.out.below hb)
  replace HL1b := Lib.hid (HL1b.out.below hb)
  clear hb
  have z_0_0 := HZ1.out.cell (i := 0) rfl
  have z_0_1 := HZ1.out.cell (i := 1) rfl
  have z_0_2 := HZ1.out.cell (i := 2) rfl
  have lt_HZ1 := HZ1.out.lt
  obtain ⟨V6, hV⟩ : ∃ V, V = u5.alloc (.cells #[.int .i64 P5a, .int .i64 Q5a, .int .i64 G5a] 24) := ⟨_, rfl⟩
  have hbV : Below u5.heap.size u5 V6 := by rw [hV]; (repeat (first | exact Below.refl _ _ | assumption | refine Below.drew ?_ | refine Below.alloc ?_ (by first | (simp; done) | (simp; omega)) _ | refine Below.setCell ?_ (by first | (simp; done) | (simp; omega)) _))
  have HZ2 : Hid (BoxN V6 u5.heap.size 24 [.int .i64 P5a, .int .i64 Q5a, .int .i64 G5a]) := by unfold Hid; rw [hV]; have h := (BoxN.new u5 [.int .i64 P5a, .int .i64 Q5a, .int .i64 G5a] 24); simpa using h
  try (go_wp2_with fail)
  rw [← hV]
  clear hV
  clear lt_HZ1
  clear z_0_0 z_0_1 z_0_2
  replace HB := Lib.hid (Below.next HB.out hbV)
  replace HZ1 := Lib.hid (HZ1.out.below hbV)
  replace HL1b := Lib.hid (HL1b.out.below hbV)
  replace HL5b := Lib.hid (HL5b.out.below hbV)
  clear hbV
  have z_0_0 := HZ1.out.cell (i := 0) rfl
  have z_0_1 := HZ1.out.cell (i := 1) rfl
  have z_0_2 := HZ1.out.cell (i := 2) rfl
  have z_1_0 := HZ2.out.cell (i := 0) rfl
  have z_1_1 := HZ2.out.cell (i := 1) rfl
  have z_1_2 := HZ2.out.cell (i := 2) rfl
  try (go_wp2_with fail)
  clear z_0_0 z_0_1 z_0_2 z_1_0 z_1_1 z_1_2
  refine (impl_SumDealings ⟨P5a, Q5a, G5a⟩ _ l5b _ HL5b.out).mono ?_
  rintro e u7 ⟨⟨v7a, v7b, rfl, o7a, o7b⟩, hb⟩
  obtain ⟨D7, hD7⟩ : ∃ d, suR ⟨P5a, Q5a, G5a⟩ l5b = d := ⟨_, rfl⟩
  have HD7 := Lib.hid hD7
  rw [hD7] at o7a o7b
  clear hD7
  have hs7a := o7a.ints
  clear o7a
  have HL7a := Lib.hid hs7a
  obtain ⟨a7a, n7a, c7a, rfl⟩ := hs7a.shape
  have HE7a := Lib.hid hs7a.len
  clear hs7a
  have hs7b := o7b.ints
  clear o7b
  have HL7b := Lib.hid hs7b
  obtain ⟨a7b, n7b, c7b, rfl⟩ := hs7b.shape
  have HE7b := Lib.hid hs7b.len
  clear hs7b
  obtain ⟨q7, hq7⟩ : ∃ r, sdB ⟨P5a, Q5a, G5a⟩ l5b = r := ⟨_, rfl⟩
  have Hq7 := Lib.hid hq7
  rw [hq7]
  clear hq7
  replace HB := Lib.hid (Below.next HB.out hb)
  replace HZ1 := Lib.hid (HZ1.out.below hb)
  replace HZ2 := Lib.hid (HZ2.out.below hb)
  replace HL1b := Lib.hid (HL1b.out.below hb)
  replace HL5b := Lib.hid (HL5b.out.below hb)
  clear hb
  have z_0_0 := HZ1.out.cell (i := 0) rfl
  have z_0_1 := HZ1.out.cell (i := 1) rfl
  have z_0_2 := HZ1.out.cell (i := 2) rfl
  have z_1_0 := HZ2.out.cell (i := 0) rfl
  have z_1_1 := HZ2.out.cell (i := 1) rfl
  have z_1_2 := HZ2.out.cell (i := 2) rfl
  have lt_HZ1 := HZ1.out.lt
  have lt_HZ2 := HZ2.out.lt
  obtain ⟨V8, hV⟩ : ∃ V, V = u7.alloc (.cells #[.slice a7a n7a c7a, .slice a7b n7b c7b] 66) := ⟨_, rfl⟩
  have hbV : Below u7.heap.size u7 V8 := by rw [hV]; (repeat (first | exact Below.refl _ _ | assumption | refine Below.drew ?_ | refine Below.alloc ?_ (by first | (simp; done) | (simp; omega)) _ | refine Below.setCell ?_ (by first | (simp; done) | (simp; omega)) _))
  have HZ3 : Hid (BoxN V8 u7.heap.size 66 [.slice a7a n7a c7a, .slice a7b n7b c7b]) := by unfold Hid; rw [hV]; have h := (BoxN.new u7 [.slice a7a n7a c7a, .slice a7b n7b c7b] 66); simpa using h
  try (go_wp2_with fail)
  rw [← hV]
  clear hV
  clear lt_HZ1
  clear lt_HZ2
  clear z_0_0 z_0_1 z_0_2 z_1_0 z_1_1 z_1_2
  replace HB := Lib.hid (Below.next HB.out hbV)
  replace HZ1 := Lib.hid (HZ1.out.below hbV)
  replace HZ2 := Lib.hid (HZ2.out.below hbV)
  replace HL1b := Lib.hid (HL1b.out.below hbV)
  replace HL5b := Lib.hid (HL5b.out.below hbV)
  replace HL7a := Lib.hid (HL7a.out.below hbV)
  replace HL7b := Lib.hid (HL7b.out.below hbV)
  clear hbV
  have z_0_0 := HZ1.out.cell (i := 0) rfl
  have z_0_1 := HZ1.out.cell (i := 1) rfl
  have z_0_2 := HZ1.out.cell (i := 2) rfl
  have z_1_0 := HZ2.out.cell (i := 0) rfl
  have z_1_1 := HZ2.out.cell (i := 1) rfl
  have z_1_2 := HZ2.out.cell (i := 2) rfl
  have z_2_0 := HZ3.out.cell (i := 0) rfl
  have z_2_1 := HZ3.out.cell (i := 1) rfl
  try (go_wp2_with fail)
  clear z_0_0 z_0_1 z_0_2 z_1_0 z_1_1 z_1_2 z_2_0 z_2_1
  refine (spec_SumDealings ⟨P5a, Q5a, G5a⟩ _ l5b _ HL5b.out).mono ?_
  rintro e u9 ⟨⟨v9a, v9b, rfl, o9a, o9b⟩, hb⟩
  rw [HD7.out] at o9a o9b
  have hs9a := o9a.ints
  clear o9a
  have HL9a := Lib.hid hs9a
  obtain ⟨a9a, n9a, c9a, rfl⟩ := hs9a.shape
  have HE9a := Lib.hid hs9a.len
  clear hs9a
  have hs9b := o9b.ints
  clear o9b
  have HL9b := Lib.hid hs9b
  obtain ⟨a9b, n9b, c9b, rfl⟩ := hs9b.shape
  have HE9b := Lib.hid hs9b.len
  clear hs9b
  rw [Hq7.out]
  replace HB := Lib.hid (Below.next HB.out hb)
  replace HZ1 := Lib.hid (HZ1.out.below hb)
  replace HZ2 := Lib.hid (HZ2.out.below hb)
  replace HZ3 := Lib.hid (HZ3.out.below hb)
  replace HL1b := Lib.hid (HL1b.out.below hb)
  replace HL5b := Lib.hid (HL5b.out.below hb)
  replace HL7a := Lib.hid (HL7a.out.below hb)
  replace HL7b := Lib.hid (HL7b.out.below hb)
  clear hb
  have eq_q3b : (q3b == q3b) = true := by simp
  have eq_q3a : (q3a == q3a) = true := by simp
  have eq_q7 : (q7 == q7) = true := by simp
  have z_0_0 := HZ1.out.cell (i := 0) rfl
  have z_0_1 := HZ1.out.cell (i := 1) rfl
  have z_0_2 := HZ1.out.cell (i := 2) rfl
  have z_1_0 := HZ2.out.cell (i := 0) rfl
  have z_1_1 := HZ2.out.cell (i := 1) rfl
  have z_1_2 := HZ2.out.cell (i := 2) rfl
  have z_2_0 := HZ3.out.cell (i := 0) rfl
  have z_2_1 := HZ3.out.cell (i := 1) rfl
  have lt_HZ1 := HZ1.out.lt
  have lt_HZ2 := HZ2.out.lt
  have lt_HZ3 := HZ3.out.lt
  obtain ⟨V10, hV⟩ : ∃ V, V = u9.alloc (.cells #[.slice a9a n9a c9a, .slice a9b n9b c9b] 66) := ⟨_, rfl⟩
  have hbV : Below u9.heap.size u9 V10 := by rw [hV]; (repeat (first | exact Below.refl _ _ | assumption | refine Below.drew ?_ | refine Below.alloc ?_ (by first | (simp; done) | (simp; omega)) _ | refine Below.setCell ?_ (by first | (simp; done) | (simp; omega)) _))
  have HZ4 : Hid (BoxN V10 u9.heap.size 66 [.slice a9a n9a c9a, .slice a9b n9b c9b]) := by unfold Hid; rw [hV]; have h := (BoxN.new u9 [.slice a9a n9a c9a, .slice a9b n9b c9b] 66); simpa using h
  try (go_wp2_with fail)
  rw [← hV]
  clear hV
  clear lt_HZ1
  clear lt_HZ2
  clear lt_HZ3
  clear z_0_0 z_0_1 z_0_2 z_1_0 z_1_1 z_1_2 z_2_0 z_2_1
  replace HB := Lib.hid (Below.next HB.out hbV)
  replace HZ1 := Lib.hid (HZ1.out.below hbV)
  replace HZ2 := Lib.hid (HZ2.out.below hbV)
  replace HZ3 := Lib.hid (HZ3.out.below hbV)
  replace HL1b := Lib.hid (HL1b.out.below hbV)
  replace HL5b := Lib.hid (HL5b.out.below hbV)
  replace HL7a := Lib.hid (HL7a.out.below hbV)
  replace HL7b := Lib.hid (HL7b.out.below hbV)
  replace HL9a := Lib.hid (HL9a.out.below hbV)
  replace HL9b := Lib.hid (HL9b.out.below hbV)
  clear hbV
  have z_0_0 := HZ1.out.cell (i := 0) rfl
  have z_0_1 := HZ1.out.cell (i := 1) rfl
  have z_0_2 := HZ1.out.cell (i := 2) rfl
  have z_1_0 := HZ2.out.cell (i := 0) rfl
  have z_1_1 := HZ2.out.cell (i := 1) rfl
  have z_1_2 := HZ2.out.cell (i := 2) rfl
  have z_2_0 := HZ3.out.cell (i := 0) rfl
  have z_2_1 := HZ3.out.cell (i := 1) rfl
  have z_3_0 := HZ4.out.cell (i := 0) rfl
  have z_3_1 := HZ4.out.cell (i := 1) rfl
  try (go_wp2_with fail)
  clear z_0_0 z_0_1 z_0_2 z_1_0 z_1_1 z_1_2 z_2_0 z_2_1 z_3_0 z_3_1
  refine (laws_qDealing _ _ D7 _ (DlR.mk HL7a.out HL7b.out) (DlR.mk HL9a.out HL9b.out)).mono ?_
  rintro e u11 ⟨rfl, hb⟩
  replace HB := Lib.hid (Below.next HB.out hb)
  replace HZ1 := Lib.hid (HZ1.out.below hb)
  replace HZ2 := Lib.hid (HZ2.out.below hb)
  replace HZ3 := Lib.hid (HZ3.out.below hb)
  replace HZ4 := Lib.hid (HZ4.out.below hb)
  replace HL1b := Lib.hid (HL1b.out.below hb)
  replace HL5b := Lib.hid (HL5b.out.below hb)
  replace HL7a := Lib.hid (HL7a.out.below hb)
  replace HL7b := Lib.hid (HL7b.out.below hb)
  replace HL9a := Lib.hid (HL9a.out.below hb)
  replace HL9b := Lib.hid (HL9b.out.below hb)
  clear hb
  cases q7 with
  | false =>
    cases q3b with
    | false =>
      have z_0_0 := HZ1.out.cell (i := 0) rfl
      have z_0_1 := HZ1.out.cell (i := 1) rfl
      have z_0_2 := HZ1.out.cell (i := 2) rfl
      have z_1_0 := HZ2.out.cell (i := 0) rfl
      have z_1_1 := HZ2.out.cell (i := 1) rfl
      have z_1_2 := HZ2.out.cell (i := 2) rfl
      have z_2_0 := HZ3.out.cell (i := 0) rfl
      have z_2_1 := HZ3.out.cell (i := 1) rfl
      have z_3_0 := HZ4.out.cell (i := 0) rfl
      have z_3_1 := HZ4.out.cell (i := 1) rfl
      try (go_wp2_with fail)
      clear z_0_0 z_0_1 z_0_2 z_1_0 z_1_1 z_1_2 z_2_0 z_2_1 z_3_0 z_3_1
      go_ret
      exact ⟨rfl, HB.out⟩
    | true =>
      have HT := Lib.hid (shc_right Hq3b.out)
      have z_0_0 := HZ1.out.cell (i := 0) rfl
      have z_0_1 := HZ1.out.cell (i := 1) rfl
      have z_0_2 := HZ1.out.cell (i := 2) rfl
      have z_1_0 := HZ2.out.cell (i := 0) rfl
      have z_1_1 := HZ2.out.cell (i := 1) rfl
      have z_1_2 := HZ2.out.cell (i := 2) rfl
      have z_2_0 := HZ3.out.cell (i := 0) rfl
      have z_2_1 := HZ3.out.cell (i := 1) rfl
      have z_3_0 := HZ4.out.cell (i := 0) rfl
      have z_3_1 := HZ4.out.cell (i := 1) rfl
      try (go_wp2_with fail)
      clear z_0_0 z_0_1 z_0_2 z_1_0 z_1_1 z_1_2 z_2_0 z_2_1 z_3_0 z_3_1
      refine (impl_CommitAt ⟨P1a, Q1a, G1a⟩ _ l1b x1c _ HL1b.out ⟨by omega, by omega⟩).mono ?_
      rintro e u12 ⟨rfl, hb⟩
      rw [HT.out.1]
      obtain ⟨r12, hr12⟩ : ∃ r, caR' ⟨P1a, Q1a, G1a⟩ l1b x1c = r := ⟨_, rfl⟩
      have Hr12 := Lib.hid hr12
      rw [hr12]
      clear hr12
      replace HB := Lib.hid (Below.next HB.out hb)
      replace HZ1 := Lib.hid (HZ1.out.below hb)
      replace HZ2 := Lib.hid (HZ2.out.below hb)
      replace HZ3 := Lib.hid (HZ3.out.below hb)
      replace HZ4 := Lib.hid (HZ4.out.below hb)
      replace HL1b := Lib.hid (HL1b.out.below hb)
      replace HL5b := Lib.hid (HL5b.out.below hb)
      replace HL7a := Lib.hid (HL7a.out.below hb)
      replace HL7b := Lib.hid (HL7b.out.below hb)
      replace HL9a := Lib.hid (HL9a.out.below hb)
      replace HL9b := Lib.hid (HL9b.out.below hb)
      clear hb
      have z_0_0 := HZ1.out.cell (i := 0) rfl
      have z_0_1 := HZ1.out.cell (i := 1) rfl
      have z_0_2 := HZ1.out.cell (i := 2) rfl
      have z_1_0 := HZ2.out.cell (i := 0) rfl
      have z_1_1 := HZ2.out.cell (i := 1) rfl
      have z_1_2 := HZ2.out.cell (i := 2) rfl
      have z_2_0 := HZ3.out.cell (i := 0) rfl
      have z_2_1 := HZ3.out.cell (i := 1) rfl
      have z_3_0 := HZ4.out.cell (i := 0) rfl
      have z_3_1 := HZ4.out.cell (i := 1) rfl
      try (go_wp2_with fail)
      clear z_0_0 z_0_1 z_0_2 z_1_0 z_1_1 z_1_2 z_2_0 z_2_1 z_3_0 z_3_1
      refine (impl_ExpOf ⟨P1a, Q1a, G1a⟩ G1a x1d _ hi1d).mono ?_
      rintro e u13 ⟨rfl, hb⟩
      rw [HT.out.2.1]
      obtain ⟨r13, hr13⟩ : ∃ r, exR ⟨P1a, Q1a, G1a⟩ G1a x1d = r := ⟨_, rfl⟩
      have Hr13 := Lib.hid hr13
      rw [hr13]
      clear hr13
      replace HB := Lib.hid (Below.next HB.out hb)
      replace HZ1 := Lib.hid (HZ1.out.below hb)
      replace HZ2 := Lib.hid (HZ2.out.below hb)
      replace HZ3 := Lib.hid (HZ3.out.below hb)
      replace HZ4 := Lib.hid (HZ4.out.below hb)
      replace HL1b := Lib.hid (HL1b.out.below hb)
      replace HL5b := Lib.hid (HL5b.out.below hb)
      replace HL7a := Lib.hid (HL7a.out.below hb)
      replace HL7b := Lib.hid (HL7b.out.below hb)
      replace HL9a := Lib.hid (HL9a.out.below hb)
      replace HL9b := Lib.hid (HL9b.out.below hb)
      clear hb
      have hxy : (r12 == r13) = q3a := by rw [← Hr12.out, ← Hr13.out, ← Hq3a.out]; exact HT.out.2.2.symm
      have hqq : (q3a == q3a) = true := by simp
      have z_0_0 := HZ1.out.cell (i := 0) rfl
      have z_0_1 := HZ1.out.cell (i := 1) rfl
      have z_0_2 := HZ1.out.cell (i := 2) rfl
      have z_1_0 := HZ2.out.cell (i := 0) rfl
      have z_1_1 := HZ2.out.cell (i := 1) rfl
      have z_1_2 := HZ2.out.cell (i := 2) rfl
      have z_2_0 := HZ3.out.cell (i := 0) rfl
      have z_2_1 := HZ3.out.cell (i := 1) rfl
      have z_3_0 := HZ4.out.cell (i := 0) rfl
      have z_3_1 := HZ4.out.cell (i := 1) rfl
      try (go_wp2_with fail)
      clear z_0_0 z_0_1 z_0_2 z_1_0 z_1_1 z_1_2 z_2_0 z_2_1 z_3_0 z_3_1
      go_ret
      exact ⟨rfl, HB.out⟩
  | true =>
    have z_0_0 := HZ1.out.cell (i := 0) rfl
    have z_0_1 := HZ1.out.cell (i := 1) rfl
    have z_0_2 := HZ1.out.cell (i := 2) rfl
    have z_1_0 := HZ2.out.cell (i := 0) rfl
    have z_1_1 := HZ2.out.cell (i := 1) rfl
    have z_1_2 := HZ2.out.cell (i := 2) rfl
    have z_2_0 := HZ3.out.cell (i := 0) rfl
    have z_2_1 := HZ3.out.cell (i := 1) rfl
    have z_3_0 := HZ4.out.cell (i := 0) rfl
    have z_3_1 := HZ4.out.cell (i := 1) rfl
    try (go_wp2_with fail)
    clear z_0_0 z_0_1 z_0_2 z_1_0 z_1_1 z_1_2 z_2_0 z_2_1 z_3_0 z_3_1
    have HTS := Lib.hid (shc_sum Hq7.out)
    have HVD : Hid (vdB ⟨P5a, Q5a, G5a⟩ D7 = true) := by unfold Hid; rw [← HD7.out]; exact HTS.out.1
    have HBD : Hid ((∀ d ∈ l5b, vdB ⟨P5a, Q5a, G5a⟩ d = true ∧ bsR ⟨P5a, Q5a, G5a⟩ d = []) → bsR ⟨P5a, Q5a, G5a⟩ D7 = []) := by unfold Hid; rw [← HD7.out]; exact HTS.out.2
    clear HTS
    go_loopg [19, 98] n5b (fun gh wv iv wr => ∃ (k : Nat) (bw : Bool), k + gh = n5b ∧ iv = .int .i64 k ∧ wv = .bool bw ∧ Hid (bw = false → ∀ d ∈ l5b.take k, vdB ⟨P5a, Q5a, G5a⟩ d = true ∧ bsR ⟨P5a, Q5a, G5a⟩ d = []) ∧ Below u11.heap.size u11 wr)
    case atStart => exact ⟨0, false, by omega, rfl, rfl, Lib.hid (fun _ d hd => by simp at hd), Below.refl _ _⟩
    case round =>
      obtain ⟨k, bw, hkg, rfl, rfl, HBW, hbr⟩ := hrel
      by_cases hlt : k < n5b
      · have hkl : k < l5b.length := by have := HE5b.out; omega
        obtain ⟨lb, lo, d0, n0, e0, d1, n1, e1, hla, x0, x1, i0, i1⟩ := RdDl.get HL5b.out hkl
        have y0 := box_at x0 hbr
        have y1 := box_at x1 hbr
        have hla' := hla
        subst hla'
        clear hla x0 x1
        have HSU : Hid (bw = false → (vdB ⟨P5a, Q5a, G5a⟩ (l5b[k]'hkl) = true ∧ bsR ⟨P5a, Q5a, G5a⟩ (l5b[k]'hkl) = []) → ∀ d ∈ l5b.take (k + 1), vdB ⟨P5a, Q5a, G5a⟩ d = true ∧ bsR ⟨P5a, Q5a, G5a⟩ d = []) := fun h1 h2 => take_all hkl (HBW.out h1) h2
        obtain ⟨y, hy⟩ : ∃ y, l5b[k]'hkl = y := ⟨_, rfl⟩
        rw [hy] at HSU i0 i1
        clear hy
        have b0 : (0 : Int) ≤ (k : Int) := by omega
        have bk1 : (k : Int) < (n5b : Int) := by omega
        have hwk : IntKind.i64.wrap ((k : Int) + 1) = (k : Int) + 1 := IntWalk.i64_in _ (by have h := HL5b.out.capMax; unfold maxLen at h; omega)
        have HBR := Lib.hid hbr
        have c0 := box_at (HZ2.out.cell (i := 0) rfl) hbr
        have c1 := box_at (HZ2.out.cell (i := 1) rfl) hbr
        have c2 := box_at (HZ2.out.cell (i := 2) rfl) hbr
        have I0 := Lib.hid (i0.below hbr)
        have I1 := Lib.hid (i1.below hbr)
        clear hbr i0 i1
        have hlg : u5.heap.size < wr.heap.size := by have := HZ2.out.lt; have := HBR.out.size; omega
        obtain ⟨V, hV⟩ : ∃ V, V = wr.alloc (.cells #[.slice d0 n0 e0, .slice d1 n1 e1] 66) := ⟨_, rfl⟩
        have hbV : Below wr.heap.size wr V := by rw [hV]; (repeat (first | exact Below.refl _ _ | assumption | refine Below.drew ?_ | refine Below.alloc ?_ (by first | (simp; done) | (simp; omega)) _ | refine Below.setCell ?_ (by first | (simp; done) | (simp; omega)) _))
        go_wp2_with fail
        rw [← hV]
        clear hV c0 c1 c2 y0 y1
        refine (impl_BadShares ⟨P5a, Q5a, G5a⟩ _ y _ (DlR.mk (I0.out.below hbV) (I1.out.below hbV))).mono ?_
        rintro e w5 ⟨⟨v5, rfl, hs5⟩, hb5⟩
        have HB5 := Lib.hid (Below.next (Below.next HBR.out hbV) hb5)
        clear hbV hb5
        obtain ⟨a5, n5, c5, rfl⟩ := hs5.shape
        have HE5 := Lib.hid hs5.len
        clear hs5
        obtain ⟨qv, hqv⟩ : ∃ z, vdB ⟨P5a, Q5a, G5a⟩ y = z := ⟨_, rfl⟩
        rw [hqv] at HSU ⊢
        clear hqv
        cases bw with
        | true =>
          go_wp2_with fail
          go_roundg (n5b - (k + 1))
          case measure => omega
          case rel => exact ⟨k + 1, true, by omega, by go_num, rfl, Lib.hid (fun h => Bool.noConfusion h), HB5.out⟩
        | false =>
          cases qv with
          | false =>
            go_wp2_with fail
            go_roundg (n5b - (k + 1))
            case measure => omega
            case rel => exact ⟨k + 1, true, by omega, by go_num, rfl, Lib.hid (fun h => Bool.noConfusion h), HB5.out⟩
          | true =>
            by_cases h5 : 0 < n5
            · have z1 : decide ((0 : Int) < (n5 : Int)) = true := decide_eq_true (by omega)
              go_wp2_with fail
              go_roundg (n5b - (k + 1))
              case measure => omega
              case rel => exact ⟨k + 1, true, by omega, by go_num, rfl, Lib.hid (fun h => Bool.noConfusion h), HB5.out⟩
            · have z1 : decide ((0 : Int) < (n5 : Int)) = false := decide_eq_false (by omega)
              have HZN : Hid (bsR ⟨P5a, Q5a, G5a⟩ y = []) := List.eq_nil_of_length_eq_zero (by have := HE5.out; omega)
              go_wp2_with fail
              go_roundg (n5b - (k + 1))
              case measure => omega
              case rel => exact ⟨k + 1, false, by omega, by go_num, rfl, Lib.hid (fun _ => HSU.out (by first | rfl | trivial) ⟨by first | rfl | trivial, HZN.out⟩), HB5.out⟩
      · obtain rfl : n5b = k := by omega
        have HTA : Hid (l5b.take n5b = l5b) := List.take_of_length_le (by rw [HE5b.out]; exact Nat.le_refl _)
        rw [HTA.out] at HBW
        clear HTA hlt
        cases bw with
        | false =>
          have HBN : Hid (bsR ⟨P5a, Q5a, G5a⟩ D7 = []) := HBD.out (HBW.out rfl)
          clear HBW HBD
          replace HB := Lib.hid (Below.next HB.out hbr)
          replace HZ1 := Lib.hid (HZ1.out.below hbr)
          replace HZ2 := Lib.hid (HZ2.out.below hbr)
          replace HZ3 := Lib.hid (HZ3.out.below hbr)
          replace HZ4 := Lib.hid (HZ4.out.below hbr)
          replace HL1b := Lib.hid (HL1b.out.below hbr)
          replace HL5b := Lib.hid (HL5b.out.below hbr)
          replace HL7a := Lib.hid (HL7a.out.below hbr)
          replace HL7b := Lib.hid (HL7b.out.below hbr)
          replace HL9a := Lib.hid (HL9a.out.below hbr)
          replace HL9b := Lib.hid (HL9b.out.below hbr)
          clear hbr
          have z_0_0 := HZ1.out.cell (i := 0) rfl
          have z_0_1 := HZ1.out.cell (i := 1) rfl
          have z_0_2 := HZ1.out.cell (i := 2) rfl
          have z_1_0 := HZ2.out.cell (i := 0) rfl
          have z_1_1 := HZ2.out.cell (i := 1) rfl
          have z_1_2 := HZ2.out.cell (i := 2) rfl
          have z_2_0 := HZ3.out.cell (i := 0) rfl
          have z_2_1 := HZ3.out.cell (i := 1) rfl
          have z_3_0 := HZ4.out.cell (i := 0) rfl
          have z_3_1 := HZ4.out.cell (i := 1) rfl
          try (go_wp2_with fail)
          clear z_0_0 z_0_1 z_0_2 z_1_0 z_1_1 z_1_2 z_2_0 z_2_1 z_3_0 z_3_1
          refine (impl_BadShares ⟨P5a, Q5a, G5a⟩ _ D7 _ (DlR.mk HL7a.out HL7b.out)).mono ?_
          rintro e u12 ⟨⟨v12, rfl, hs12⟩, hb⟩
          rw [HVD.out]
          have HL12 := Lib.hid hs12
          obtain ⟨a12, n12, c12, rfl⟩ := hs12.shape
          have HE12 := Lib.hid hs12.len
          clear hs12
          replace HB := Lib.hid (Below.next HB.out hb)
          replace HZ1 := Lib.hid (HZ1.out.below hb)
          replace HZ2 := Lib.hid (HZ2.out.below hb)
          replace HZ3 := Lib.hid (HZ3.out.below hb)
          replace HZ4 := Lib.hid (HZ4.out.below hb)
          replace HL1b := Lib.hid (HL1b.out.below hb)
          replace HL5b := Lib.hid (HL5b.out.below hb)
          replace HL7a := Lib.hid (HL7a.out.below hb)
          replace HL7b := Lib.hid (HL7b.out.below hb)
          replace HL9a := Lib.hid (HL9a.out.below hb)
          replace HL9b := Lib.hid (HL9b.out.below hb)
          clear hb
          have hn0 : n12 = 0 := by have h := HE12.out; rw [HBN.out] at h; simpa using h.symm
          have z1 : decide ((0 : Int) < (n12 : Int)) = false := decide_eq_false (by omega)
          have z2 : ¬ 0 < n12 := by omega
          clear hn0
          cases q3b with
          | false =>
            have z_0_0 := HZ1.out.cell (i := 0) rfl
            have z_0_1 := HZ1.out.cell (i := 1) rfl
            have z_0_2 := HZ1.out.cell (i := 2) rfl
            have z_1_0 := HZ2.out.cell (i := 0) rfl
            have z_1_1 := HZ2.out.cell (i := 1) rfl
            have z_1_2 := HZ2.out.cell (i := 2) rfl
            have z_2_0 := HZ3.out.cell (i := 0) rfl
            have z_2_1 := HZ3.out.cell (i := 1) rfl
            have z_3_0 := HZ4.out.cell (i := 0) rfl
            have z_3_1 := HZ4.out.cell (i := 1) rfl
            try (go_wp2_with fail)
            clear z_0_0 z_0_1 z_0_2 z_1_0 z_1_1 z_1_2 z_2_0 z_2_1 z_3_0 z_3_1
            go_ret
            exact ⟨rfl, HB.out⟩
          | true =>
            have HT := Lib.hid (shc_right Hq3b.out)
            have z_0_0 := HZ1.out.cell (i := 0) rfl
            have z_0_1 := HZ1.out.cell (i := 1) rfl
            have z_0_2 := HZ1.out.cell (i := 2) rfl
            have z_1_0 := HZ2.out.cell (i := 0) rfl
            have z_1_1 := HZ2.out.cell (i := 1) rfl
            have z_1_2 := HZ2.out.cell (i := 2) rfl
            have z_2_0 := HZ3.out.cell (i := 0) rfl
            have z_2_1 := HZ3.out.cell (i := 1) rfl
            have z_3_0 := HZ4.out.cell (i := 0) rfl
            have z_3_1 := HZ4.out.cell (i := 1) rfl
            try (go_wp2_with fail)
            clear z_0_0 z_0_1 z_0_2 z_1_0 z_1_1 z_1_2 z_2_0 z_2_1 z_3_0 z_3_1
            refine (impl_CommitAt ⟨P1a, Q1a, G1a⟩ _ l1b x1c _ HL1b.out ⟨by omega, by omega⟩).mono ?_
            rintro e u13 ⟨rfl, hb⟩
            rw [HT.out.1]
            obtain ⟨r13, hr13⟩ : ∃ r, caR' ⟨P1a, Q1a, G1a⟩ l1b x1c = r := ⟨_, rfl⟩
            have Hr13 := Lib.hid hr13
            rw [hr13]
            clear hr13
            replace HB := Lib.hid (Below.next HB.out hb)
            replace HZ1 := Lib.hid (HZ1.out.below hb)
            replace HZ2 := Lib.hid (HZ2.out.below hb)
            replace HZ3 := Lib.hid (HZ3.out.below hb)
            replace HZ4 := Lib.hid (HZ4.out.below hb)
            replace HL1b := Lib.hid (HL1b.out.below hb)
            replace HL5b := Lib.hid (HL5b.out.below hb)
            replace HL7a := Lib.hid (HL7a.out.below hb)
            replace HL7b := Lib.hid (HL7b.out.below hb)
            replace HL9a := Lib.hid (HL9a.out.below hb)
            replace HL9b := Lib.hid (HL9b.out.below hb)
            replace HL12 := Lib.hid (HL12.out.below hb)
            clear hb
            have z_0_0 := HZ1.out.cell (i := 0) rfl
            have z_0_1 := HZ1.out.cell (i := 1) rfl
            have z_0_2 := HZ1.out.cell (i := 2) rfl
            have z_1_0 := HZ2.out.cell (i := 0) rfl
            have z_1_1 := HZ2.out.cell (i := 1) rfl
            have z_1_2 := HZ2.out.cell (i := 2) rfl
            have z_2_0 := HZ3.out.cell (i := 0) rfl
            have z_2_1 := HZ3.out.cell (i := 1) rfl
            have z_3_0 := HZ4.out.cell (i := 0) rfl
            have z_3_1 := HZ4.out.cell (i := 1) rfl
            try (go_wp2_with fail)
            clear z_0_0 z_0_1 z_0_2 z_1_0 z_1_1 z_1_2 z_2_0 z_2_1 z_3_0 z_3_1
            refine (impl_ExpOf ⟨P1a, Q1a, G1a⟩ G1a x1d _ hi1d).mono ?_
            rintro e u14 ⟨rfl, hb⟩
            rw [HT.out.2.1]
            obtain ⟨r14, hr14⟩ : ∃ r, exR ⟨P1a, Q1a, G1a⟩ G1a x1d = r := ⟨_, rfl⟩
            have Hr14 := Lib.hid hr14
            rw [hr14]
            clear hr14
            replace HB := Lib.hid (Below.next HB.out hb)
            replace HZ1 := Lib.hid (HZ1.out.below hb)
            replace HZ2 := Lib.hid (HZ2.out.below hb)
            replace HZ3 := Lib.hid (HZ3.out.below hb)
            replace HZ4 := Lib.hid (HZ4.out.below hb)
            replace HL1b := Lib.hid (HL1b.out.below hb)
            replace HL5b := Lib.hid (HL5b.out.below hb)
            replace HL7a := Lib.hid (HL7a.out.below hb)
            replace HL7b := Lib.hid (HL7b.out.below hb)
            replace HL9a := Lib.hid (HL9a.out.below hb)
            replace HL9b := Lib.hid (HL9b.out.below hb)
            replace HL12 := Lib.hid (HL12.out.below hb)
            clear hb
            have hxy : (r13 == r14) = q3a := by rw [← Hr13.out, ← Hr14.out, ← Hq3a.out]; exact HT.out.2.2.symm
            have hqq : (q3a == q3a) = true := by simp
            have z_0_0 := HZ1.out.cell (i := 0) rfl
            have z_0_1 := HZ1.out.cell (i := 1) rfl
            have z_0_2 := HZ1.out.cell (i := 2) rfl
            have z_1_0 := HZ2.out.cell (i := 0) rfl
            have z_1_1 := HZ2.out.cell (i := 1) rfl
            have z_1_2 := HZ2.out.cell (i := 2) rfl
            have z_2_0 := HZ3.out.cell (i := 0) rfl
            have z_2_1 := HZ3.out.cell (i := 1) rfl
            have z_3_0 := HZ4.out.cell (i := 0) rfl
            have z_3_1 := HZ4.out.cell (i := 1) rfl
            try (go_wp2_with fail)
            clear z_0_0 z_0_1 z_0_2 z_1_0 z_1_1 z_1_2 z_2_0 z_2_1 z_3_0 z_3_1
            go_ret
            exact ⟨rfl, HB.out⟩
        | true =>
          clear HBW HBD
          replace HB := Lib.hid (Below.next HB.out hbr)
          replace HZ1 := Lib.hid (HZ1.out.below hbr)
          replace HZ2 := Lib.hid (HZ2.out.below hbr)
          replace HZ3 := Lib.hid (HZ3.out.below hbr)
          replace HZ4 := Lib.hid (HZ4.out.below hbr)
          replace HL1b := Lib.hid (HL1b.out.below hbr)
          replace HL5b := Lib.hid (HL5b.out.below hbr)
          replace HL7a := Lib.hid (HL7a.out.below hbr)
          replace HL7b := Lib.hid (HL7b.out.below hbr)
          replace HL9a := Lib.hid (HL9a.out.below hbr)
          replace HL9b := Lib.hid (HL9b.out.below hbr)
          clear hbr
          have z_0_0 := HZ1.out.cell (i := 0) rfl
          have z_0_1 := HZ1.out.cell (i := 1) rfl
          have z_0_2 := HZ1.out.cell (i := 2) rfl
          have z_1_0 := HZ2.out.cell (i := 0) rfl
          have z_1_1 := HZ2.out.cell (i := 1) rfl
          have z_1_2 := HZ2.out.cell (i := 2) rfl
          have z_2_0 := HZ3.out.cell (i := 0) rfl
          have z_2_1 := HZ3.out.cell (i := 1) rfl
          have z_3_0 := HZ4.out.cell (i := 0) rfl
          have z_3_1 := HZ4.out.cell (i := 1) rfl
          try (go_wp2_with fail)
          clear z_0_0 z_0_1 z_0_2 z_1_0 z_1_1 z_1_2 z_2_0 z_2_1 z_3_0 z_3_1
          refine (impl_BadShares ⟨P5a, Q5a, G5a⟩ _ D7 _ (DlR.mk HL7a.out HL7b.out)).mono ?_
          rintro e u12 ⟨⟨v12, rfl, hs12⟩, hb⟩
          rw [HVD.out]
          have HL12 := Lib.hid hs12
          obtain ⟨a12, n12, c12, rfl⟩ := hs12.shape
          have HE12 := Lib.hid hs12.len
          clear hs12
          replace HB := Lib.hid (Below.next HB.out hb)
          replace HZ1 := Lib.hid (HZ1.out.below hb)
          replace HZ2 := Lib.hid (HZ2.out.below hb)
          replace HZ3 := Lib.hid (HZ3.out.below hb)
          replace HZ4 := Lib.hid (HZ4.out.below hb)
          replace HL1b := Lib.hid (HL1b.out.below hb)
          replace HL5b := Lib.hid (HL5b.out.below hb)
          replace HL7a := Lib.hid (HL7a.out.below hb)
          replace HL7b := Lib.hid (HL7b.out.below hb)
          replace HL9a := Lib.hid (HL9a.out.below hb)
          replace HL9b := Lib.hid (HL9b.out.below hb)
          clear hb
          cases q3b with
          | false =>
            have z_0_0 := HZ1.out.cell (i := 0) rfl
            have z_0_1 := HZ1.out.cell (i := 1) rfl
            have z_0_2 := HZ1.out.cell (i := 2) rfl
            have z_1_0 := HZ2.out.cell (i := 0) rfl
            have z_1_1 := HZ2.out.cell (i := 1) rfl
            have z_1_2 := HZ2.out.cell (i := 2) rfl
            have z_2_0 := HZ3.out.cell (i := 0) rfl
            have z_2_1 := HZ3.out.cell (i := 1) rfl
            have z_3_0 := HZ4.out.cell (i := 0) rfl
            have z_3_1 := HZ4.out.cell (i := 1) rfl
            try (go_wp2_with fail)
            clear z_0_0 z_0_1 z_0_2 z_1_0 z_1_1 z_1_2 z_2_0 z_2_1 z_3_0 z_3_1
            go_ret
            exact ⟨rfl, HB.out⟩
          | true =>
            have HT := Lib.hid (shc_right Hq3b.out)
            have z_0_0 := HZ1.out.cell (i := 0) rfl
            have z_0_1 := HZ1.out.cell (i := 1) rfl
            have z_0_2 := HZ1.out.cell (i := 2) rfl
            have z_1_0 := HZ2.out.cell (i := 0) rfl
            have z_1_1 := HZ2.out.cell (i := 1) rfl
            have z_1_2 := HZ2.out.cell (i := 2) rfl
            have z_2_0 := HZ3.out.cell (i := 0) rfl
            have z_2_1 := HZ3.out.cell (i := 1) rfl
            have z_3_0 := HZ4.out.cell (i := 0) rfl
            have z_3_1 := HZ4.out.cell (i := 1) rfl
            try (go_wp2_with fail)
            clear z_0_0 z_0_1 z_0_2 z_1_0 z_1_1 z_1_2 z_2_0 z_2_1 z_3_0 z_3_1
            refine (impl_CommitAt ⟨P1a, Q1a, G1a⟩ _ l1b x1c _ HL1b.out ⟨by omega, by omega⟩).mono ?_
            rintro e u13 ⟨rfl, hb⟩
            rw [HT.out.1]
            obtain ⟨r13, hr13⟩ : ∃ r, caR' ⟨P1a, Q1a, G1a⟩ l1b x1c = r := ⟨_, rfl⟩
            have Hr13 := Lib.hid hr13
            rw [hr13]
            clear hr13
            replace HB := Lib.hid (Below.next HB.out hb)
            replace HZ1 := Lib.hid (HZ1.out.below hb)
            replace HZ2 := Lib.hid (HZ2.out.below hb)
            replace HZ3 := Lib.hid (HZ3.out.below hb)
            replace HZ4 := Lib.hid (HZ4.out.below hb)
            replace HL1b := Lib.hid (HL1b.out.below hb)
            replace HL5b := Lib.hid (HL5b.out.below hb)
            replace HL7a := Lib.hid (HL7a.out.below hb)
            replace HL7b := Lib.hid (HL7b.out.below hb)
            replace HL9a := Lib.hid (HL9a.out.below hb)
            replace HL9b := Lib.hid (HL9b.out.below hb)
            replace HL12 := Lib.hid (HL12.out.below hb)
            clear hb
            have z_0_0 := HZ1.out.cell (i := 0) rfl
            have z_0_1 := HZ1.out.cell (i := 1) rfl
            have z_0_2 := HZ1.out.cell (i := 2) rfl
            have z_1_0 := HZ2.out.cell (i := 0) rfl
            have z_1_1 := HZ2.out.cell (i := 1) rfl
            have z_1_2 := HZ2.out.cell (i := 2) rfl
            have z_2_0 := HZ3.out.cell (i := 0) rfl
            have z_2_1 := HZ3.out.cell (i := 1) rfl
            have z_3_0 := HZ4.out.cell (i := 0) rfl
            have z_3_1 := HZ4.out.cell (i := 1) rfl
            try (go_wp2_with fail)
            clear z_0_0 z_0_1 z_0_2 z_1_0 z_1_1 z_1_2 z_2_0 z_2_1 z_3_0 z_3_1
            refine (impl_ExpOf ⟨P1a, Q1a, G1a⟩ G1a x1d _ hi1d).mono ?_
            rintro e u14 ⟨rfl, hb⟩
            rw [HT.out.2.1]
            obtain ⟨r14, hr14⟩ : ∃ r, exR ⟨P1a, Q1a, G1a⟩ G1a x1d = r := ⟨_, rfl⟩
            have Hr14 := Lib.hid hr14
            rw [hr14]
            clear hr14
            replace HB := Lib.hid (Below.next HB.out hb)
            replace HZ1 := Lib.hid (HZ1.out.below hb)
            replace HZ2 := Lib.hid (HZ2.out.below hb)
            replace HZ3 := Lib.hid (HZ3.out.below hb)
            replace HZ4 := Lib.hid (HZ4.out.below hb)
            replace HL1b := Lib.hid (HL1b.out.below hb)
            replace HL5b := Lib.hid (HL5b.out.below hb)
            replace HL7a := Lib.hid (HL7a.out.below hb)
            replace HL7b := Lib.hid (HL7b.out.below hb)
            replace HL9a := Lib.hid (HL9a.out.below hb)
            replace HL9b := Lib.hid (HL9b.out.below hb)
            replace HL12 := Lib.hid (HL12.out.below hb)
            clear hb
            have hxy : (r13 == r14) = q3a := by rw [← Hr13.out, ← Hr14.out, ← Hq3a.out]; exact HT.out.2.2.symm
            have hqq : (q3a == q3a) = true := by simp
            have z_0_0 := HZ1.out.cell (i := 0) rfl
            have z_0_1 := HZ1.out.cell (i := 1) rfl
            have z_0_2 := HZ1.out.cell (i := 2) rfl
            have z_1_0 := HZ2.out.cell (i := 0) rfl
            have z_1_1 := HZ2.out.cell (i := 1) rfl
            have z_1_2 := HZ2.out.cell (i := 2) rfl
            have z_2_0 := HZ3.out.cell (i := 0) rfl
            have z_2_1 := HZ3.out.cell (i := 1) rfl
            have z_3_0 := HZ4.out.cell (i := 0) rfl
            have z_3_1 := HZ4.out.cell (i := 1) rfl
            try (go_wp2_with fail)
            clear z_0_0 z_0_1 z_0_2 z_1_0 z_1_1 z_1_2 z_2_0 z_2_1 z_3_0 z_3_1
            go_ret
            exact ⟨rfl, HB.out⟩
end Go.Proofs.Ytegomgnlhcbmfaa
/- From a walk of a law to its row: whatever the arguments, the law returns true and nothing that was there has turned. -/







namespace Go.Proofs.Ytegomgnlhcbmfaa
open Go.ChangeShapes Go.WideShapes Go.ChangeAt Go.RowKit

theorem ownKnob_none : ownKnob Try.prog.godebug = none := by kernel_rfl
theorem laid_out : laidOutB Try.prog = true := by kernel_rfl

section
variable {H : Type} {enc : TypeId × Value → H} {P : Program}

theorem trodAll_below (hl : laidOutB P = true) {W W' : World} (hb : Below W.heap.size W W') :
    ∀ (ts : List TypeId) (vs : List Value) (ds : List (DataW H)) (ps : List MemPlace), (∀ t ∈ ts, P.readableRec t = true ∧ t < P.types.size) →
      DataW.TrodAll enc P W 0 (fun _ => true) true ts vs ds ps → (∀ x ∈ ps, x.block < W.heap.size) →
      ∀ sp : Nat → Bool, (∀ p ∈ ps, sp p.block = true) → DataW.TrodAll enc P W' 0 sp true ts vs ds ps
  | [], vs, ds, ps, _, h, _, sp, _ => by
    obtain ⟨rfl, rfl, rfl⟩ := trodAll_nil h
    exact trodAll_mk0
  | t :: ts, vs, ds, ps, ht, h, hlt, sp, hsp => by
    obtain ⟨v0, vs0, d0, ds0, p0, q0, rfl, rfl, rfl, h0, r0⟩ := trodAll_cons h
    refine trodAll_cons_mk ?_ (trodAll_below hl hb ts vs0 ds0 q0 (fun t' h' => ht t' (by simp [h'])) r0 (fun x hx => hlt x (by simp [hx])) sp (fun x hx => hsp x (by simp [hx])))
    exact WideElems.Trod_stays hl (ht t (by simp)).1 (ht t (by simp)).2 h0 (fun x hx => hb.same (hlt x (by simp [hx]))) (fun x hx => hsp x (by simp [hx]))

theorem post_law {f : Func} {s : ChangeSpec} {tb : TypeId} {W W' : World} {args : Array Value} {ds gs : List (DataW H)} {before : List MemPlace}
    (hl : laidOutB P = true) (hpB : f.params.toList.all (fun t => P.readableRec t && decide (t < P.types.size)) = true) (hrt : f.resultTypes = #[tb]) (htb : P.underlying tb = some .bool)
    (hvars : s.vars = []) (hW : DataW.Whole enc P f.params.toList s.vars false W args.toList ds gs before)
    (hfn : s.fn H ds = { results := [.lit (.bool true)], args := ds }) (hb : Below W.heap.size W W') :
    s.post enc P f false true false false W args (.bool true) W' := by
  have hp : ∀ t ∈ f.params.toList, P.readableRec t = true ∧ t < P.types.size := fun t ht => by simpa using List.all_eq_true.1 hpB t ht
  have hlt : ∀ x ∈ before, x.block < W.heap.size := fun x hx => by simpa using hW.lt x hx
  have hW' := hW
  obtain ⟨p, q, hA0, hV, rfl, hfz, hnd⟩ := hW
  rw [hvars] at hV
  obtain ⟨rfl, rfl⟩ := trodVars_none hV
  have e : s.fn H (ds ++ []) = { results := [.lit (.bool true)], args := ds } := by rw [List.append_nil]; exact hfn
  have hargs := trodAll_below (enc := enc) hl hb f.params.toList args.toList ds p hp hA0 (fun x hx => hlt x (by simp [hx]))
  refine ⟨ds, [], p ++ [], [], p, [], hW', ?_, ?_, ?_, ?_, fun h => by cases h⟩
  · rw [e, hrt]
    exact trodAll_cons_mk (shut_bool htb true) trodAll_mk0
  · rw [e]
    exact hargs _ (fun x hx => by simpa using hlt x (by simp [hx]))
  · rw [e, hvars]
    rfl
  · exact hb.frame _
end


section
variable {H : Type} {enc : TypeId × Value → H} {P : Program} {w : World} {base : Nat} {spare : Nat → Bool} {held : Bool}
open Go.Joins Go.Deep
end

section
variable {H : Type} {enc : TypeId × Value → H} {w : World} {base : Nat} {spare : Nat → Bool} {held : Bool}
theorem addr_of_cell {w : World} {a : Addr} {v : Value} (h : w.cell? a = some v) : a = ⟨a.block, a.off, none⟩ := by
  obtain ⟨b, o, s⟩ := a
  cases s with
  | none => rfl
  | some x =>
    unfold World.cell? at h
    split at h <;> simp at h
end
end Go.Proofs.Ytegomgnlhcbmfaa
/- Arguments that are slices of structs. -/


namespace Go.Proofs.Ytegomgnlhcbmfaa
open Go.ChangeShapes Go.WideShapes Go.ChangeAt Go.RowKit
set_option linter.unusedVariables false

end Go.Proofs.Ytegomgnlhcbmfaa
/- Arguments of type laws.Proof (printed by genarg.py). -/


namespace Go.Proofs.Ytegomgnlhcbmfaa
open Go.ChangeShapes Go.WideShapes Go.ChangeAt Go.RowKit
set_option linter.unusedVariables false
set_option linter.unusedSimpArgs false

section
variable {H : Type} {enc : TypeId × Value → H} {w : World} {base : Nat} {spare : Nat → Bool} {held : Bool}
open Go.Joins Go.Deep
end
end Go.Proofs.Ytegomgnlhcbmfaa
/- Arguments of type laws.Head (printed by genarg.py). -/



namespace Go.Proofs.Ytegomgnlhcbmfaa
open Go.ChangeShapes Go.WideShapes Go.ChangeAt Go.RowKit
set_option linter.unusedVariables false
set_option linter.unusedSimpArgs false

section
variable {H : Type} {enc : TypeId × Value → H} {w : World} {base : Nat} {spare : Nat → Bool} {held : Bool}
open Go.Joins Go.Deep
end
end Go.Proofs.Ytegomgnlhcbmfaa
/- Arguments of type laws.Entry (printed by genarg.py). -/



namespace Go.Proofs.Ytegomgnlhcbmfaa
open Go.ChangeShapes Go.WideShapes Go.ChangeAt Go.RowKit
set_option linter.unusedVariables false
set_option linter.unusedSimpArgs false

section
variable {H : Type} {enc : TypeId × Value → H} {w : World} {base : Nat} {spare : Nat → Bool} {held : Bool}
open Go.Joins Go.Deep
end
end Go.Proofs.Ytegomgnlhcbmfaa
/- Arguments of type laws.Group. -/


namespace Go.Proofs.Ytegomgnlhcbmfaa
open Go.ChangeShapes Go.WideShapes Go.ChangeAt Go.RowKit
set_option linter.unusedVariables false

section
variable {H : Type} {enc : TypeId × Value → H} {w : World} {base : Nat} {spare : Nat → Bool} {held : Bool}
open Go.Joins Go.Deep
end
end Go.Proofs.Ytegomgnlhcbmfaa
namespace Go.Proofs.Ytegomgnlhcbmfaa
open Go.ChangeShapes Go.WideShapes Go.ChangeAt Go.RowKit
set_option linter.unusedVariables false

section
variable {H : Type} {enc : TypeId × Value → H} {w : World} {base : Nat} {spare : Nat → Bool} {held : Bool}
theorem cells_byte : Try.prog.cellsOf 5 = 1 := by kernel_rfl
theorem wf_u8 {x : Int} (h : (Lit.int .u8 x).wf = true) : 0 ≤ x ∧ x ≤ 255 := by
  simpa [Lit.wf, IntKind.min, IntKind.max, IntKind.signed, IntKind.bits] using h
set_option maxRecDepth 100000 in
theorem bytes_of_trod {n : Nat} {v : Value} {y : DataW H × List MemPlace} (h : DataW.trod enc Try.prog w base spare held n 22 [v] = some y) : Bytes w v := by
  rcases open_ints Try.underlying22 Try.underlying5 cells_byte h with ⟨hcs, _⟩ | ⟨a, len, cap, zs, hcs, _, hl, hm, hz, _, hcell, hwz⟩
  · simp at hcs; subst hcs; exact ⟨none, 0, 0, rfl, Nat.le_refl _, Nat.zero_le _, .inl rfl⟩
  · simp only [List.cons.injEq, and_true] at hcs; subst hcs
    have hle : len ≤ zs.length := by rw [hz]; split <;> omega
    refine ⟨some a, len, cap, rfl, hl, hm, ?_⟩
    rcases Nat.eq_zero_or_pos len with h0 | h0
    · exact .inl h0
    · have hc0 := hcell 0 (by omega)
      have e : a.add 0 = a := by simp [Addr.add]
      rw [e] at hc0
      have ea := addr_of_cell hc0
      refine .inr ⟨a.block, a.off, by rw [← ea], fun i hi => ?_⟩
      have h1 := hcell i (by omega)
      rw [ea, Addr.add_lit] at h1
      refine ⟨_, h1, ?_⟩
      have h2 := hwz (zs.getD i 0) (by rw [List.getD_eq_getElem?_getD, List.getElem?_eq_getElem (by omega)]; exact List.getElem_mem _)
      exact wf_u8 h2
set_option maxRecDepth 100000 in
theorem bytes_of_arg {r : Reach} {b0 : Nat} {v : Value} {d : DataW H} {p : List MemPlace} (hv : Value.okWide Try.prog w r b0 22 v) (h : DataW.Trod enc Try.prog w base spare held 22 v d p) : Bytes w v := by
  obtain ⟨a, n, c, rfl⟩ := okWide_slice Try.underlying22 hv
  obtain ⟨fuel, hf⟩ := h
  exact bytes_of_trod (by simpa [Value.cells] using hf)
end
end Go.Proofs.Ytegomgnlhcbmfaa
