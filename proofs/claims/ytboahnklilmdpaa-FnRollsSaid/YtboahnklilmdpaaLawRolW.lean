/- The walk of FnRolls (printed by gen_lawrol.py). -/
import Derived.Test.YtboahnklilmdpaaDrC3W
import Derived.Test.YtboahnklilmdpaaCip8W
import Derived.Test.YtboahnklilmdpaaEqIW
import Derived.Test.YtboahnklilmdpaaRegRW
import Derived.Test.YtboahnklilmdpaaLawDW
import Derived.Deep.Cut
namespace Go.Proofs.Ytboahnklilmdpaa
open Go.RowKit
set_option linter.unusedSimpArgs false
set_option linter.unusedVariables false

theorem beq_bool_self (b : Bool) : (b != b) = false := by cases b <;> rfl
set_option maxRecDepth 100000 in
set_option maxHeartbeats 8000000 in
theorem law_Rolls (va vb : Value) (w : World) (h1 : Bytes w va) (h2 : Bytes w vb) :
    Calls Try.prog 7 #[va, vb] w fun e w' => e = .returned (.bool true) ∧ Below w.heap.size w w' := by
  obtain ⟨a, m, c, rfl, k1, k2, hv⟩ := h1
  obtain ⟨a', m', c', rfl, k3, k4, hv'⟩ := h2
  have H1 : Hid (Bytes w (.slice a m c)) := ⟨a, m, c, rfl, k1, k2, hv⟩
  have H2 : Hid (Bytes w (.slice a' m' c')) := ⟨a', m', c', rfl, k3, k4, hv'⟩
  clear hv hv'
  unfold maxLen at k2 k4
  by_cases hbig : (1048576 : Int) < wrap64 ((m : Int) + (m' : Int))
  · go_enter Try.func7, Try.ntmps7
    go_wp2_with fail
    go_ret
    exact ⟨rfl, Below.refl _ _⟩
  have HB : Hid (Below w.heap.size w w) := Below.refl _ _
  go_enter Try.func7, Try.ntmps7
  go_wp2_with fail
  try (go_wp2_with fail)
  refine (spec_DrawRollOf _ _ (H1.out.below HB.out)).mono ?_
  rintro e u1 ⟨⟨P1a, Q1a, G1a, x1b, v1c, l1c, v1d, l1d, rfl, hgr1a, ⟨x1bl, x1bu⟩, ⟨hs1c, hl1c⟩, ⟨hs1d, hl1d⟩⟩, hb⟩
  clear hgr1a
  have HL1c := Lib.hid hs1c
  obtain ⟨a1c, n1c, c1c, rfl⟩ := hs1c.shape
  have HE1c := Lib.hid hs1c.len
  clear hs1c
  have HL1d := Lib.hid hs1d
  obtain ⟨a1d, n1d, c1d, rfl⟩ := hs1d.shape
  have HE1d := Lib.hid hs1d.len
  clear hs1d
  replace HB := Lib.hid (Below.next HB.out hb)
  clear hb
  obtain ⟨V2, hV⟩ : ∃ V, V = u1.alloc (.cells #[.int .i64 P1a, .int .i64 Q1a, .int .i64 G1a] 39) := ⟨_, rfl⟩
  have hbV : Below u1.heap.size u1 V2 := by rw [hV]; (repeat (first | exact Below.refl _ _ | assumption | refine Below.drew ?_ | refine Below.alloc ?_ (by first | (simp; done) | (simp; omega)) _ | refine Below.setCell ?_ (by first | (simp; done) | (simp; omega)) _))
  have HZ1 : Hid (BoxN V2 u1.heap.size 39 [.int .i64 P1a, .int .i64 Q1a, .int .i64 G1a]) := by unfold Hid; rw [hV]; have h := (BoxN.new u1 [.int .i64 P1a, .int .i64 Q1a, .int .i64 G1a] 39); simpa using h
  try (go_wp2_with fail)
  rw [← hV]
  clear hV
  replace HB := Lib.hid (Below.next HB.out hbV)
  replace HL1c := Lib.hid (HL1c.out.below hbV)
  replace HL1d := Lib.hid (HL1d.out.below hbV)
  clear hbV
  have z_0_0 := HZ1.out.cell (i := 0) rfl
  have z_0_1 := HZ1.out.cell (i := 1) rfl
  have z_0_2 := HZ1.out.cell (i := 2) rfl
  try (go_wp2_with fail)
  clear z_0_0 z_0_1 z_0_2
  refine (impl_RollOf ⟨P1a, Q1a, G1a⟩ x1b _ l1c _ l1d _ ⟨by omega, by omega⟩ HL1c.out HL1d.out).mono ?_
  rintro e u3 ⟨v3, rfl, hs3, hb⟩
  obtain ⟨D3, hD3⟩ : ∃ d, rlR ⟨P1a, Q1a, G1a⟩ x1b l1c l1d = d := ⟨_, rfl⟩
  have HD3 := Lib.hid hD3
  rw [hD3] at hs3
  clear hD3
  have HL3 := Lib.hid hs3
  obtain ⟨a3, n3, c3, rfl⟩ := hs3.shape
  have HE3 := Lib.hid hs3.len
  clear hs3
  obtain ⟨q3, hq3⟩ : ∃ r, rlB ⟨P1a, Q1a, G1a⟩ x1b l1c l1d = r := ⟨_, rfl⟩
  have Hq3 := Lib.hid hq3
  rw [hq3]
  clear hq3
  replace HB := Lib.hid (Below.next HB.out hb)
  replace HZ1 := Lib.hid (HZ1.out.below hb)
  replace HL1c := Lib.hid (HL1c.out.below hb)
  replace HL1d := Lib.hid (HL1d.out.below hb)
  clear hb
  have z_0_0 := HZ1.out.cell (i := 0) rfl
  have z_0_1 := HZ1.out.cell (i := 1) rfl
  have z_0_2 := HZ1.out.cell (i := 2) rfl
  try (go_wp2_with fail)
  clear z_0_0 z_0_1 z_0_2
  refine (spec_RollOf ⟨P1a, Q1a, G1a⟩ x1b _ l1c _ l1d _ ⟨by omega, by omega⟩ HL1c.out HL1d.out).mono ?_
  rintro e u4 ⟨v4, rfl, hs4, hb⟩
  rw [HD3.out] at hs4
  have HL4 := Lib.hid hs4
  obtain ⟨a4, n4, c4, rfl⟩ := hs4.shape
  have HE4 := Lib.hid hs4.len
  clear hs4
  rw [Hq3.out]
  replace HB := Lib.hid (Below.next HB.out hb)
  replace HZ1 := Lib.hid (HZ1.out.below hb)
  replace HL1c := Lib.hid (HL1c.out.below hb)
  replace HL1d := Lib.hid (HL1d.out.below hb)
  replace HL3 := Lib.hid (HL3.out.below hb)
  clear hb
  have z_0_0 := HZ1.out.cell (i := 0) rfl
  have z_0_1 := HZ1.out.cell (i := 1) rfl
  have z_0_2 := HZ1.out.cell (i := 2) rfl
  try (go_wp2_with fail)
  clear z_0_0 z_0_1 z_0_2
  refine (spec_DrawTagsOf _ _ (H2.out.below HB.out)).mono ?_
  rintro e u5 ⟨⟨P5a, Q5a, G5a, x5b, x5c, v5d, l5d, rfl, hgr5a, ⟨x5bl, x5bu⟩, ⟨x5cl, x5cu⟩, ⟨hs5d, hl5d⟩⟩, hb⟩
  clear hgr5a
  have HL5d := Lib.hid hs5d
  obtain ⟨a5d, n5d, c5d, rfl⟩ := hs5d.shape
  have HE5d := Lib.hid hs5d.len
  clear hs5d
  replace HB := Lib.hid (Below.next HB.out hb)
  replace HZ1 := Lib.hid (HZ1.out.below hb)
  replace HL1c := Lib.hid (HL1c.out.below hb)
  replace HL1d := Lib.hid (HL1d.out.below hb)
  replace HL3 := Lib.hid (HL3.out.below hb)
  replace HL4 := Lib.hid (HL4.out.below hb)
  clear hb
  have z_0_0 := HZ1.out.cell (i := 0) rfl
  have z_0_1 := HZ1.out.cell (i := 1) rfl
  have z_0_2 := HZ1.out.cell (i := 2) rfl
  have lt_HZ1 := HZ1.out.lt
  obtain ⟨V6, hV⟩ : ∃ V, V = u5.alloc (.cells #[.int .i64 P5a, .int .i64 Q5a, .int .i64 G5a] 39) := ⟨_, rfl⟩
  have hbV : Below u5.heap.size u5 V6 := by rw [hV]; (repeat (first | exact Below.refl _ _ | assumption | refine Below.drew ?_ | refine Below.alloc ?_ (by first | (simp; done) | (simp; omega)) _ | refine Below.setCell ?_ (by first | (simp; done) | (simp; omega)) _))
  have HZ2 : Hid (BoxN V6 u5.heap.size 39 [.int .i64 P5a, .int .i64 Q5a, .int .i64 G5a]) := by unfold Hid; rw [hV]; have h := (BoxN.new u5 [.int .i64 P5a, .int .i64 Q5a, .int .i64 G5a] 39); simpa using h
  try (go_wp2_with fail)
  rw [← hV]
  clear hV
  clear lt_HZ1
  clear z_0_0 z_0_1 z_0_2
  replace HB := Lib.hid (Below.next HB.out hbV)
  replace HZ1 := Lib.hid (HZ1.out.below hbV)
  replace HL1c := Lib.hid (HL1c.out.below hbV)
  replace HL1d := Lib.hid (HL1d.out.below hbV)
  replace HL3 := Lib.hid (HL3.out.below hbV)
  replace HL4 := Lib.hid (HL4.out.below hbV)
  replace HL5d := Lib.hid (HL5d.out.below hbV)
  clear hbV
  have z_0_0 := HZ1.out.cell (i := 0) rfl
  have z_0_1 := HZ1.out.cell (i := 1) rfl
  have z_0_2 := HZ1.out.cell (i := 2) rfl
  have z_1_0 := HZ2.out.cell (i := 0) rfl
  have z_1_1 := HZ2.out.cell (i := 1) rfl
  have z_1_2 := HZ2.out.cell (i := 2) rfl
  try (go_wp2_with fail)
  clear z_0_0 z_0_1 z_0_2 z_1_0 z_1_1 z_1_2
  refine (impl_TagsOf ⟨P5a, Q5a, G5a⟩ x5b x5c _ l5d _ ⟨by omega, by omega⟩ ⟨by omega, by omega⟩ HL5d.out).mono ?_
  rintro e u7 ⟨v7, rfl, hs7, hb⟩
  obtain ⟨D7, hD7⟩ : ∃ d, tgR ⟨P5a, Q5a, G5a⟩ x5b x5c l5d = d := ⟨_, rfl⟩
  have HD7 := Lib.hid hD7
  rw [hD7] at hs7
  clear hD7
  have HL7 := Lib.hid hs7
  obtain ⟨a7, n7, c7, rfl⟩ := hs7.shape
  have HE7 := Lib.hid hs7.len
  clear hs7
  obtain ⟨q7, hq7⟩ : ∃ r, tgB ⟨P5a, Q5a, G5a⟩ x5b x5c l5d = r := ⟨_, rfl⟩
  have Hq7 := Lib.hid hq7
  rw [hq7]
  clear hq7
  replace HB := Lib.hid (Below.next HB.out hb)
  replace HZ1 := Lib.hid (HZ1.out.below hb)
  replace HZ2 := Lib.hid (HZ2.out.below hb)
  replace HL1c := Lib.hid (HL1c.out.below hb)
  replace HL1d := Lib.hid (HL1d.out.below hb)
  replace HL3 := Lib.hid (HL3.out.below hb)
  replace HL4 := Lib.hid (HL4.out.below hb)
  replace HL5d := Lib.hid (HL5d.out.below hb)
  clear hb
  have z_0_0 := HZ1.out.cell (i := 0) rfl
  have z_0_1 := HZ1.out.cell (i := 1) rfl
  have z_0_2 := HZ1.out.cell (i := 2) rfl
  have z_1_0 := HZ2.out.cell (i := 0) rfl
  have z_1_1 := HZ2.out.cell (i := 1) rfl
  have z_1_2 := HZ2.out.cell (i := 2) rfl
  try (go_wp2_with fail)
  clear z_0_0 z_0_1 z_0_2 z_1_0 z_1_1 z_1_2
  refine (spec_TagsOf ⟨P5a, Q5a, G5a⟩ x5b x5c _ l5d _ ⟨by omega, by omega⟩ ⟨by omega, by omega⟩ HL5d.out).mono ?_
  rintro e u8 ⟨v8, rfl, hs8, hb⟩
  rw [HD7.out] at hs8
  have HL8 := Lib.hid hs8
  obtain ⟨a8, n8, c8, rfl⟩ := hs8.shape
  have HE8 := Lib.hid hs8.len
  clear hs8
  rw [Hq7.out]
  replace HB := Lib.hid (Below.next HB.out hb)
  replace HZ1 := Lib.hid (HZ1.out.below hb)
  replace HZ2 := Lib.hid (HZ2.out.below hb)
  replace HL1c := Lib.hid (HL1c.out.below hb)
  replace HL1d := Lib.hid (HL1d.out.below hb)
  replace HL3 := Lib.hid (HL3.out.below hb)
  replace HL4 := Lib.hid (HL4.out.below hb)
  replace HL5d := Lib.hid (HL5d.out.below hb)
  replace HL7 := Lib.hid (HL7.out.below hb)
  clear hb
  have eq_q3 : (q3 == q3) = true := by simp
  have z_0_0 := HZ1.out.cell (i := 0) rfl
  have z_0_1 := HZ1.out.cell (i := 1) rfl
  have z_0_2 := HZ1.out.cell (i := 2) rfl
  have z_1_0 := HZ2.out.cell (i := 0) rfl
  have z_1_1 := HZ2.out.cell (i := 1) rfl
  have z_1_2 := HZ2.out.cell (i := 2) rfl
  try (go_wp2_with fail)
  clear z_0_0 z_0_1 z_0_2 z_1_0 z_1_1 z_1_2
  refine (laws_qCiphersEq _ _ D3 _ HL3.out HL4.out).mono ?_
  rintro e u9 ⟨rfl, hb⟩
  replace HB := Lib.hid (Below.next HB.out hb)
  replace HZ1 := Lib.hid (HZ1.out.below hb)
  replace HZ2 := Lib.hid (HZ2.out.below hb)
  replace HL1c := Lib.hid (HL1c.out.below hb)
  replace HL1d := Lib.hid (HL1d.out.below hb)
  replace HL3 := Lib.hid (HL3.out.below hb)
  replace HL4 := Lib.hid (HL4.out.below hb)
  replace HL5d := Lib.hid (HL5d.out.below hb)
  replace HL7 := Lib.hid (HL7.out.below hb)
  replace HL8 := Lib.hid (HL8.out.below hb)
  clear hb
  have eq_q7 : (q7 == q7) = true := by simp
  have z_0_0 := HZ1.out.cell (i := 0) rfl
  have z_0_1 := HZ1.out.cell (i := 1) rfl
  have z_0_2 := HZ1.out.cell (i := 2) rfl
  have z_1_0 := HZ2.out.cell (i := 0) rfl
  have z_1_1 := HZ2.out.cell (i := 1) rfl
  have z_1_2 := HZ2.out.cell (i := 2) rfl
  try (go_wp2_with fail)
  clear z_0_0 z_0_1 z_0_2 z_1_0 z_1_1 z_1_2
  refine (laws_qInts _ _ D7 _ HL7.out HL8.out).mono ?_
  rintro e u10 ⟨rfl, hb⟩
  replace HB := Lib.hid (Below.next HB.out hb)
  replace HZ1 := Lib.hid (HZ1.out.below hb)
  replace HZ2 := Lib.hid (HZ2.out.below hb)
  replace HL1c := Lib.hid (HL1c.out.below hb)
  replace HL1d := Lib.hid (HL1d.out.below hb)
  replace HL3 := Lib.hid (HL3.out.below hb)
  replace HL4 := Lib.hid (HL4.out.below hb)
  replace HL5d := Lib.hid (HL5d.out.below hb)
  replace HL7 := Lib.hid (HL7.out.below hb)
  replace HL8 := Lib.hid (HL8.out.below hb)
  clear hb
  have z_0_0 := HZ1.out.cell (i := 0) rfl
  have z_0_1 := HZ1.out.cell (i := 1) rfl
  have z_0_2 := HZ1.out.cell (i := 2) rfl
  have z_1_0 := HZ2.out.cell (i := 0) rfl
  have z_1_1 := HZ2.out.cell (i := 1) rfl
  have z_1_2 := HZ2.out.cell (i := 2) rfl
  go_upto_if 100 with fail
  clear z_0_0 z_0_1 z_0_2 z_1_0 z_1_1 z_1_2
  go_cut [] from 28 (fun wx => Hid (Below u10.heap.size u10 wx))
  case first =>
    have HCB : Hid (Below u10.heap.size u10 u10) := Below.refl _ _
    cases q7 with
    | false =>
      have z_0_0 := HZ1.out.cell (i := 0) rfl
      have z_0_1 := HZ1.out.cell (i := 1) rfl
      have z_0_2 := HZ1.out.cell (i := 2) rfl
      have z_1_0 := HZ2.out.cell (i := 0) rfl
      have z_1_1 := HZ2.out.cell (i := 1) rfl
      have z_1_2 := HZ2.out.cell (i := 2) rfl
      try (go_wp2_with fail)
      clear z_0_0 z_0_1 z_0_2 z_1_0 z_1_1 z_1_2
      go_meet
      exact HCB
    | true =>
      have z_0_0 := HZ1.out.cell (i := 0) rfl
      have z_0_1 := HZ1.out.cell (i := 1) rfl
      have z_0_2 := HZ1.out.cell (i := 2) rfl
      have z_1_0 := HZ2.out.cell (i := 0) rfl
      have z_1_1 := HZ2.out.cell (i := 1) rfl
      have z_1_2 := HZ2.out.cell (i := 2) rfl
      try (go_wp2_with fail)
      clear z_0_0 z_0_1 z_0_2 z_1_0 z_1_1 z_1_2
      refine (impl_EqualGroups ⟨P5a, Q5a, G5a⟩ x5b _ l5d _ ⟨by omega, by omega⟩ HL5d.out).mono ?_
      rintro e u11 ⟨v11, rfl, hs11, hb⟩
      obtain ⟨D11, hD11⟩ : ∃ d, egR ⟨P5a, Q5a, G5a⟩ x5b l5d = d := ⟨_, rfl⟩
      have HD11 := Lib.hid hD11
      rw [hD11] at hs11
      clear hD11
      have HL11 := Lib.hid hs11
      obtain ⟨a11, n11, c11, rfl⟩ := hs11.shape
      have HE11 := Lib.hid hs11.len
      clear hs11
      have HEB : Hid (egB ⟨P5a, Q5a, G5a⟩ x5b l5d = true) := tgB_eg Hq7.out
      rw [HEB.out]
      have HTD : Hid (D7 = tgL ⟨P5a, Q5a, G5a⟩ x5b x5c l5d) := by unfold Hid; rw [← HD7.out]; unfold tgR; rw [if_pos Hq7.out]
      have HED : Hid (D11 = egL ⟨P5a, Q5a, G5a⟩ x5b l5d) := by unfold Hid; rw [← HD11.out]; unfold egR; rw [if_pos HEB.out]
      obtain rfl : n5d = n11 := by have e1 := HE11.out; have e2 := HE5d.out; rw [HED.out, egL_length] at e1; omega
      replace HB := Lib.hid (Below.next HB.out hb)
      replace HCB := Lib.hid (Below.next HCB.out hb)
      replace HZ1 := Lib.hid (HZ1.out.below hb)
      replace HZ2 := Lib.hid (HZ2.out.below hb)
      replace HL1c := Lib.hid (HL1c.out.below hb)
      replace HL1d := Lib.hid (HL1d.out.below hb)
      replace HL3 := Lib.hid (HL3.out.below hb)
      replace HL4 := Lib.hid (HL4.out.below hb)
      replace HL5d := Lib.hid (HL5d.out.below hb)
      replace HL7 := Lib.hid (HL7.out.below hb)
      replace HL8 := Lib.hid (HL8.out.below hb)
      clear hb
      have eq__n5d___Int_ : ((n5d : Int) == (n5d : Int)) = true := by simp
      have z_0_0 := HZ1.out.cell (i := 0) rfl
      have z_0_1 := HZ1.out.cell (i := 1) rfl
      have z_0_2 := HZ1.out.cell (i := 2) rfl
      have z_1_0 := HZ2.out.cell (i := 0) rfl
      have z_1_1 := HZ2.out.cell (i := 1) rfl
      have z_1_2 := HZ2.out.cell (i := 2) rfl
      try (go_wp2_with fail)
      clear z_0_0 z_0_1 z_0_2 z_1_0 z_1_1 z_1_2
      have HTP : Hid (tkB ⟨P5a, Q5a, G5a⟩ x5b x5c = true ∧ cisB ⟨P5a, Q5a, G5a⟩ l5d = true) := by have h := Hq7.out; unfold tgB at h; rw [Bool.and_eq_true] at h; exact h
      have HTK := Lib.hid (tkB_parts HTP.out.1)
      have HCA : Hid (l5d.all (ciB ⟨P5a, Q5a, G5a⟩) = true) := by have h := HTP.out.2; unfold cisB at h; rw [Bool.and_eq_true] at h; exact h.2
      have HCN : Hid (l5d.length = n5d) := HE5d.out
      have HTN : Hid (D7.length = n5d) := by unfold Hid; rw [HTD.out, tgL_length]; exact HCN.out
      have HGN : Hid (D11.length = n5d) := by unfold Hid; rw [HED.out, egL_length]; exact HCN.out
      have hn61 : n5d ≤ 24 := by have h := HTP.out.2; unfold cisB at h; rw [Bool.and_eq_true, decide_eq_true_iff] at h; have := h.1; have := HCN.out; omega
      have htn : n7 = n5d := by have := HE7.out; have := HTN.out; omega
      go_loopg [119] n5d (fun gh iv wr => ∃ k : Nat, k + gh = n5d ∧ iv = .int .i64 k ∧ Below u11.heap.size u11 wr)
      case atStart => exact ⟨0, by omega, rfl, Below.refl _ _⟩
      case round =>
        obtain ⟨k, hkg, rfl, hbr⟩ := hrel
        by_cases hlt : k < n5d
        · have hwk : IntKind.i64.wrap ((k : Int) + 1) = (k : Int) + 1 := IntWalk.i64_in _ (by omega)
          have HBR := Lib.hid hbr
          clear hbr
          have b2 : (k : Int) < (n5d : Int) := by omega
          obtain ⟨wA, hwA⟩ : ∃ u, u = wr := ⟨_, rfl⟩
          rw [← hwA] at HBR
          (try rw [← hwA])
          subst hwA
          go_wp2_with fail
          go_loopg [124] n5d (fun gi iv wr => ∃ j : Nat, j + gi = n5d ∧ iv = .int .i64 j ∧ Below u11.heap.size u11 wr)
          case atStart => exact ⟨0, by omega, rfl, HBR.out⟩
          case round =>
            obtain ⟨j, hjg, rfl, hbj⟩ := hrel
            by_cases hltj : j < n5d
            · have hwj : IntKind.i64.wrap ((j : Int) + 1) = (j : Int) + 1 := IntWalk.i64_in _ (by omega)
              have HTT := Lib.hid (tag_tail (s := x5b) HTK.out.1 HTK.out.2.2.1 HTK.out.2.2.2 HCA.out (i := k) (j := j) (by have := HCN.out; omega) (by have := HCN.out; omega))
              rw [← HTD.out, ← HED.out] at HTT
              have HT0 := HL7
              have HG0 := HL11
              obtain ⟨bt, ot, hta, hct⟩ := HT0.out.at_ (by have := HTN.out; omega)
              obtain ⟨bg, og, hga, hcg⟩ := HG0.out.at_ (by have := HGN.out; omega)
              subst hta
              subst hga
              have y_0 := box_at (hct k (by omega)) hbj
              have y_1 := box_at (hct j (by omega)) hbj
              have y_2 := box_at (hcg k (by omega)) hbj
              have y_3 := box_at (hcg j (by omega)) hbj
              clear hct hcg HT0 HG0
              obtain ⟨bq, hbq⟩ : ∃ b, (nth D7 k == nth D7 j) = b := ⟨_, rfl⟩
              have hbq2 : (nth D11 k == nth D11 j) = bq := by rw [← HTT.out, hbq]
              clear HTT
              generalize nth D7 k = x at y_0 hbq
              generalize nth D7 j = y at y_1 hbq
              generalize nth D11 k = p at y_2 hbq2
              generalize nth D11 j = q at y_3 hbq2
              have i0 : (0 : Int) ≤ (k : Int) := by omega
              have i1 : (0 : Int) ≤ (j : Int) := by omega
              have b3 : (j : Int) < (n5d : Int) := by omega
              have b4 : (k : Int) < (n7 : Int) := by omega
              have b5 : (j : Int) < (n7 : Int) := by omega
              have hq0 : (bq != bq) = false := beq_bool_self bq
              have HBJ := Lib.hid hbj
              clear hbj
              have hc : Below wr.heap.size wr wr := Below.refl _ _
              go_wp2_with fail
              try (go_wp2_with fail)
              refine wp_region_noPanic ?_
              refine wp_region_P (fun w' => w'.cell? ⟨bt, ot + k, none⟩ = some (.int .i64 x) ∧ w'.cell? ⟨bt, ot + j, none⟩ = some (.int .i64 y) ∧ w'.cell? ⟨bg, og + k, none⟩ = some (.int .i64 p) ∧ w'.cell? ⟨bg, og + j, none⟩ = some (.int .i64 q)) 21 [(0, []), (1, []), (2, [1, 0]), (3, [0]), (4, []), (5, []), (6, [1, 0]), (7, [0]), (8, [4, 0]), (9, []), (10, []), (11, [1, 0]), (12, [0]), (13, []), (14, []), (15, [1, 0]), (16, [0]), (17, [4, 0]), (18, [9, 0])] [] (by kernel_rfl) (by kernel_rfl) (by kernel_rfl) rfl (fun _ _ _ _ h => h) (fun w' h => ⟨box_at y_0 h, box_at y_1 h, box_at y_2 h, box_at y_3 h⟩) ?_
              simp only [pickP, pickN, List.getElem?_cons_zero, List.getElem?_cons_succ]
              iterate 8 (refine' chainP_read _ rfl rfl (fun w' hS' => ?_) ?_; rotate_left; · (simp only [lookP, allP, Act.put, List.getElem?_cons_zero, List.getElem?_cons_succ, List.setIfInBounds_toArray, List.set_cons_zero, List.set_cons_succ]; (try dsimp only at hS'); go_simp; (try with_reducible rfl)))
              -- 8: binOp Bineql 3 t130 t134 3
              refine chainP_read (d := (some 135)) (.bool bq) rfl rfl (fun w' hS' => ?_) ?_
              · simp only [lookP, allP, Act.put, List.getElem?_cons_zero, List.getElem?_cons_succ, List.setIfInBounds_toArray, List.set_cons_zero, List.set_cons_succ]
                (try dsimp only at hS')
                go_simp
                (try with_reducible rfl)
              iterate 8 (refine' chainP_read _ rfl rfl (fun w' hS' => ?_) ?_; rotate_left; · (simp only [lookP, allP, Act.put, List.getElem?_cons_zero, List.getElem?_cons_succ, List.setIfInBounds_toArray, List.set_cons_zero, List.set_cons_succ]; (try dsimp only at hS'); go_simp; (try with_reducible rfl)))
              -- 17: binOp Bineql 3 t139 t143 3
              refine chainP_read (d := (some 144)) (.bool bq) rfl rfl (fun w' hS' => ?_) ?_
              · simp only [lookP, allP, Act.put, List.getElem?_cons_zero, List.getElem?_cons_succ, List.setIfInBounds_toArray, List.set_cons_zero, List.set_cons_succ]
                (try dsimp only at hS')
                go_simp
                (try with_reducible rfl)
              -- 18: binOp Binneq 4 t135 t144 4
              refine' chainP_read (d := (some 145)) _ rfl rfl (fun w' hS' => ?_) ?_; rotate_left
              · simp only [lookP, allP, Act.put, List.getElem?_cons_zero, List.getElem?_cons_succ, List.setIfInBounds_toArray, List.set_cons_zero, List.set_cons_succ]
                (try dsimp only at hS')
                go_simp
                (try with_reducible rfl)
              refine chainP_nil (fun ua hS' => ?_)
              simp only [allP, Act.put, List.setIfInBounds_toArray, List.set_cons_zero, List.set_cons_succ]
              have hq1 := hS'.1
              clear hS'
              replace hc := Below.next hc hq1
              replace y_0 := box_at y_0 hq1
              replace y_1 := box_at y_1 hq1
              replace y_2 := box_at y_2 hq1
              replace y_3 := box_at y_3 hq1
              clear hq1
              have HC3 := Lib.hid hc
              clear hc y_0 y_1 y_2 y_3
              go_wp2_with fail
              refine NoPanic.normal ?_
              go_wp2_with fail
              go_roundg (n5d - (j + 1))
              case measure => omega
              case rel => exact ⟨j + 1, by omega, by go_num, Below.next HBJ.out HC3.out⟩
            · obtain rfl : n5d = j := by omega
              have HBJ := Lib.hid hbj
              clear hbj
              go_wp2_with fail
              go_roundg (n5d - (k + 1))
              case measure => omega
              case rel => exact ⟨k + 1, by omega, by go_num, HBJ.out⟩
        · obtain rfl : n5d = k := by omega
          replace HCB := Lib.hid (Below.next HCB.out hbr)
          clear hbr
          go_wp2_with fail
          go_meet
          exact HCB
  case rest =>
    have hct := hcut.out
    clear hcut
    replace HB := Lib.hid (Below.next HB.out hct)
    replace HZ1 := Lib.hid (HZ1.out.below hct)
    replace HZ2 := Lib.hid (HZ2.out.below hct)
    replace HL1c := Lib.hid (HL1c.out.below hct)
    replace HL1d := Lib.hid (HL1d.out.below hct)
    replace HL3 := Lib.hid (HL3.out.below hct)
    replace HL4 := Lib.hid (HL4.out.below hct)
    replace HL5d := Lib.hid (HL5d.out.below hct)
    replace HL7 := Lib.hid (HL7.out.below hct)
    replace HL8 := Lib.hid (HL8.out.below hct)
    clear hct
    cases q3 with
    | false =>
      have z_0_0 := HZ1.out.cell (i := 0) rfl
      have z_0_1 := HZ1.out.cell (i := 1) rfl
      have z_0_2 := HZ1.out.cell (i := 2) rfl
      have z_1_0 := HZ2.out.cell (i := 0) rfl
      have z_1_1 := HZ2.out.cell (i := 1) rfl
      have z_1_2 := HZ2.out.cell (i := 2) rfl
      try (go_wp2_with fail)
      clear z_0_0 z_0_1 z_0_2 z_1_0 z_1_1 z_1_2
      go_ret
      exact ⟨rfl, HB.out⟩
    | true =>
      have z_0_0 := HZ1.out.cell (i := 0) rfl
      have z_0_1 := HZ1.out.cell (i := 1) rfl
      have z_0_2 := HZ1.out.cell (i := 2) rfl
      have z_1_0 := HZ2.out.cell (i := 0) rfl
      have z_1_1 := HZ2.out.cell (i := 1) rfl
      have z_1_2 := HZ2.out.cell (i := 2) rfl
      try (go_wp2_with fail)
      clear z_0_0 z_0_1 z_0_2 z_1_0 z_1_1 z_1_2
      have HRA := Lib.hid (rlB_parts Hq3.out)
      have HGD := Lib.hid HRA.out.1
      have HN1 : Hid (l1c.length = n1c) := HE1c.out
      have HN2 : Hid (l1d.length = n1d) := HE1d.out
      have HKI : Hid (I64 x1b) := ⟨by omega, by omega⟩
      have HDD : Hid (D3 = rlL ⟨P1a, Q1a, G1a⟩ x1b l1c l1d) := by unfold Hid; rw [← HD3.out]; unfold rlR; rw [if_pos Hq3.out]
      have hn24 : n1c ≤ 24 := by have := HRA.out.2.2.1; have := HN1.out; omega
      go_loopg [152] n1c (fun gh iv wr => ∃ k : Nat, k + gh = n1c ∧ iv = .int .i64 k ∧ Below wc.heap.size wc wr)
      case atStart => exact ⟨0, by omega, rfl, Below.refl _ _⟩
      case round =>
        obtain ⟨k, hkg, rfl, hbr⟩ := hrel
        by_cases hlt : k < n1c
        · have HK1 : Hid (k < l1c.length) := by unfold Hid; rw [HN1.out]; exact hlt
          have HK2 : Hid (k < l1d.length) := by unfold Hid; rw [HRA.out.2.2.2.2.1]; exact HK1.out
          have HK : Hid (k < D3.length) := by unfold Hid; rw [HDD.out, rlL_length HRA.out.2.2.2.2.1]; exact HK1.out
          have HOE : Hid (D3[k]'HK.out = enC ⟨P1a, Q1a, G1a⟩ x1b (nth l1c k) (nth l1d k)) := by
            have e := HDD.out
            have h := HK.out
            unfold Hid
            subst e
            exact rlL_at HK1.out HRA.out.2.2.2.2.1 h
          have HCX : Hid (crB ⟨P1a, Q1a, G1a⟩ (nth l1c k) = true) := all_nth HRA.out.2.2.2.1 HK1.out
          have HEY : Hid (expB ⟨P1a, Q1a, G1a⟩ (nth l1d k) = true) := all_nth HRA.out.2.2.2.2.2 HK2.out
          have HXI := Lib.hid (HL1c.out.all.at_ k)
          have HYI := Lib.hid (HL1d.out.all.at_ k)
          have hr24 : n1d = n1c := by have := HRA.out.2.2.2.2.1; have := HN1.out; have := HN2.out; omega
          have ho24 : n3 = n1c := by have h := HE3.out; rw [HDD.out, rlL_length HRA.out.2.2.2.2.1] at h; have := HN1.out; omega
          obtain ⟨bx, ox, rfl, hcr⟩ := (HL1c.out).at_ (by have := HN1.out; omega)
          have y_0 := box_at (hcr k (by omega)) hbr
          clear hcr
          obtain ⟨by_, oy, rfl, hcr⟩ := (HL1d.out).at_ (by have := HN2.out; omega)
          have y_1 := box_at (hcr k (by omega)) hbr
          clear hcr
          generalize nth l1c k = x at y_0 HOE HCX HXI
          generalize nth l1d k = y at y_1 HOE HEY HYI
          have hk3 : k < n3 := by omega
          obtain ⟨b_z, o_z, rfl, hcx⟩ := HL3.out.at_ (by omega)
          obtain ⟨us, hcell, hrd⟩ := hcx k HK.out
          clear hcx
          generalize D3[k]'HK.out = z at hrd HOE
          obtain ⟨ers, jz_0, jz_1⟩ := rdCipher.1 ⟨us, rfl, hrd⟩
          obtain rfl : us = [.int .i64 z.a, .int .i64 z.b] := by have h := Value.agg.inj ers; simpa using congrArg Array.toList h
          clear ers hrd
          have y_z_0 : wr.cell? ⟨b_z, o_z + k * 2, none⟩ = some (.int .i64 z.a) := box_at (hcell 0 (by decide)) hbr
          have y_z_1 : wr.cell? ⟨b_z, o_z + k * 2 + 1, none⟩ = some (.int .i64 z.b) := box_at (hcell 1 (by decide)) hbr
          clear hcell
          have HR_z := Lib.hid ((kS rCipher).rd_below (rdCipher.2 ⟨rfl, jz_0, jz_1⟩ : (kS rCipher).rd wc (.agg #[.int .i64 z.a, .int .i64 z.b]) z) hbr)
          have J_z_0 := Lib.hid jz_0
          have J_z_1 := Lib.hid jz_1
          clear jz_0 jz_1
          have HEB : Hid (eeB ⟨P1a, Q1a, G1a⟩ x1b x y = true) := by unfold Hid eeB; rw [HGD.out, HRA.out.2.1, crB_el HCX.out, HEY.out]; rfl
          have HER : Hid (eeR ⟨P1a, Q1a, G1a⟩ x1b x y = z) := by unfold Hid eeR; rw [if_pos HEB.out, HOE.out]
          have hwk : IntKind.i64.wrap ((k : Int) + 1) = (k : Int) + 1 := IntWalk.i64_in _ (by omega)
          have k0 : (0 : Int) ≤ (k : Int) := by omega
          have k1 : (k : Int) < (n1c : Int) := by omega
          have k1r : (k : Int) < (n1d : Int) := by omega
          have k1o : (k : Int) < (n3 : Int) := by omega
          clear hr24 ho24
          have eza : (z.a == z.a) = true := by simp
          have ezb : (z.b == z.b) = true := by simp
          have c0 := box_at (HZ1.out.cell (i := 0) rfl) hbr
          have c1 := box_at (HZ1.out.cell (i := 1) rfl) hbr
          have c2 := box_at (HZ1.out.cell (i := 2) rfl) hbr
          have HBR := Lib.hid hbr
          clear hbr
          have HYZ0 := Lib.hid y_z_0
          have HYZ1 := Lib.hid y_z_1
          clear y_z_0 y_z_1
          have hc : Below wr.heap.size wr wr := Below.refl _ _
          go_wp2_with fail
          try (go_wp2_with fail)
          refine wp_region_noPanic ?_
          have hCC : ∀ w', Below wr.heap.size wr w' → (w'.cell? ⟨u1.heap.size, 0, none⟩ = some (.int .i64 P1a) ∧ w'.cell? ⟨u1.heap.size, 1, none⟩ = some (.int .i64 Q1a) ∧ w'.cell? ⟨u1.heap.size, 2, none⟩ = some (.int .i64 G1a) ∧ w'.cell? ⟨bx, ox + k, none⟩ = some (.int .i64 x) ∧ w'.cell? ⟨by_, oy + k, none⟩ = some (.int .i64 y)) := fun w' h => ⟨box_at c0 h, box_at c1 h, box_at c2 h, box_at y_0 h, box_at y_1 h⟩
          refine wp_region_L (fun w' => w'.cell? ⟨u1.heap.size, 0, none⟩ = some (.int .i64 P1a) ∧ w'.cell? ⟨u1.heap.size, 1, none⟩ = some (.int .i64 Q1a) ∧ w'.cell? ⟨u1.heap.size, 2, none⟩ = some (.int .i64 G1a) ∧ w'.cell? ⟨bx, ox + k, none⟩ = some (.int .i64 x) ∧ w'.cell? ⟨by_, oy + k, none⟩ = some (.int .i64 y)) 19 [] [13] [(0, []), (1, []), (2, []), (3, []), (4, [1, 0]), (5, [0]), (6, []), (7, []), (8, [1, 0]), (9, [0]), (10, [9, 8, 4, 0]), (11, [0]), (12, [0]), (13, [1]), (14, [])] [15, 16] (by kernel_rfl) (by kernel_rfl) (by kernel_rfl) (by kernel_rfl) (by kernel_rfl) rfl (fun _ _ _ _ h => h) hCC ?_
          simp only [pickR, pickN, List.getElem?_cons_zero, List.getElem?_cons_succ]
          refine wpPre_nil (fun _ => ?_)
          iterate 10 (refine' chainL_read _ rfl rfl (fun w' hS' => ?_) ?_; rotate_left; · (simp only [lookP, allP, Act.put, List.getElem?_cons_zero, List.getElem?_cons_succ, List.setIfInBounds_toArray, List.set_cons_zero, List.set_cons_succ]; (try dsimp only at hS'); go_simp; (try with_reducible rfl)))
          -- 10: call { callee := value (func 68), args := #[t156, t157, t161, t165], argTypes := #[39, 3, 3, 3] }
          refine chainL_call hCC (d := (some 166)) (.tuple #[.agg #[.int .i64 z.a, .int .i64 z.b], .bool true]) rfl rfl (fun w' hS' => ?_) ?_
          · simp only [lookP, allP, Act.put, List.getElem?_cons_zero, List.getElem?_cons_succ, List.setIfInBounds_toArray, List.set_cons_zero, List.set_cons_succ]
            intro K hK
            go_simp
            go_at_call 68
            refine (impl_EncryptElement ⟨P1a, Q1a, G1a⟩ x1b x y _ HKI.out HXI.out HYI.out).mono ?_
            rintro e u ⟨rfl, hq⟩
            rw [HEB.out, HER.out]
            exact hK.out _ hq
          iterate 2 (refine' chainL_read _ rfl rfl (fun w' hS' => ?_) ?_; rotate_left; · (simp only [lookP, allP, Act.put, List.getElem?_cons_zero, List.getElem?_cons_succ, List.setIfInBounds_toArray, List.set_cons_zero, List.set_cons_succ]; (try dsimp only at hS'); go_simp; (try with_reducible rfl)))
          -- 13: extract t155 1
          refine' chainL_late (d := (some 168)) _ rfl rfl (fun w' hS' => ?_) ?_; rotate_left
          · simp only [lookP, allP, Act.put, List.getElem?_cons_zero, List.getElem?_cons_succ, List.setIfInBounds_toArray, List.set_cons_zero, List.set_cons_succ]
            intro w''
            go_simp
            (try with_reducible rfl)
          -- 14: alloc 58
          refine chainL_do hCC (d := (some 26)) (fun v u => ∃ b, v = .pointer (some ⟨b, 0, none⟩) ∧ wr.heap.size ≤ b ∧ BoxN u b 58 [.int .i64 0, .int .i64 0]) (fun v w1 w2 hw h => by obtain ⟨b, h1, h2, h3⟩ := h; exact ⟨b, h1, h2, h3.below hw⟩) rfl rfl (fun w' hS' => ?_) ?_
          · simp only [lookP, allP, Act.put, List.getElem?_cons_zero, List.getElem?_cons_succ, List.setIfInBounds_toArray, List.set_cons_zero, List.set_cons_succ]
            intro K hK
            go_simp
            refine hK.out _ _ ((Below.refl _ _).alloc (Nat.le_refl _) _) ⟨_, rfl, hS'.1.size, ?_⟩
            exact BoxN.new w' [.int .i64 0, .int .i64 0] _
          refine chainL_nil (fun ua hS' => ?_)
          simp only [allP, Act.put, List.setIfInBounds_toArray, List.set_cons_zero, List.set_cons_succ]
          intro x14 hx14
          have hq1 := hS'.1
          clear hS'
          replace hc := Below.next hc hq1
          replace c0 := box_at c0 hq1
          replace c1 := box_at c1 hq1
          replace c2 := box_at c2 hq1
          replace y_0 := box_at y_0 hq1
          replace y_1 := box_at y_1 hq1
          clear hq1
          obtain ⟨b14, rfl, hgeb14, hbxb14⟩ := hx14
          have HXb14 := Lib.hid hbxb14
          clear hbxb14
          have r0 := HXb14.out.cell (i := 0) rfl
          have r1 := HXb14.out.cell (i := 1) rfl
          have fr := fun j => HXb14.out.frozen j
          go_wp2_with fail
          refine NoPanic.normal ?_
          obtain ⟨Y1, hY⟩ : ∃ Y, Y = (ua.setCell ⟨b14, 0, none⟩ (.int .i64 z.a)).setCell ⟨b14, 1, none⟩ (.int .i64 z.b) := ⟨_, rfl⟩
          have HBb14 : Hid (BoxN Y1 b14 58 [.int .i64 z.a, .int .i64 z.b]) := by unfold Hid; rw [hY]; exact (HXb14.out.set 0 _).set 1 _
          have hc' : Below wr.heap.size wr Y1 := by rw [hY]; exact (hc.setCell (p := ⟨b14, 0, none⟩) (by show _ ≤ b14; omega) _).setCell (p := ⟨b14, 1, none⟩) (by show _ ≤ b14; omega) _
          clear r0 r1 fr hc HXb14 c0 c1 c2 y_0 y_1
          have y_z_0 := box_at HYZ0.out hc'
          have y_z_1 := box_at HYZ1.out hc'
          have d0 := HBb14.out.cell (i := 0) rfl
          have d1 := HBb14.out.cell (i := 1) rfl
          have HC1 := Lib.hid hc'
          clear hc'
          have hc : Below Y1.heap.size Y1 Y1 := Below.refl _ _
          go_wp2_with fail
          rw [← hY]
          clear hY
          try (go_wp2_with fail)
          try (go_wp2_with fail)
          refine wp_region_noPanic ?_
          refine wp_region_P (fun w' => w'.cell? ⟨b_z, o_z + k * 2, none⟩ = some (.int .i64 z.a) ∧ w'.cell? ⟨b_z, o_z + k * 2 + 1, none⟩ = some (.int .i64 z.b) ∧ w'.cell? ⟨b14, 0, none⟩ = some (.int .i64 z.a) ∧ w'.cell? ⟨b14, 1, none⟩ = some (.int .i64 z.b)) 12 [(0, []), (1, [0]), (2, [0]), (3, [0]), (4, [1]), (5, [2]), (6, [1, 0, 3]), (7, [0, 4]), (8, [4, 0, 5]), (9, [6, 0])] [] (by kernel_rfl) (by kernel_rfl) (by kernel_rfl) rfl (fun _ _ _ _ h => h) (fun w' h => ⟨box_at y_z_0 h, box_at y_z_1 h, box_at d0 h, box_at d1 h⟩) ?_
          simp only [pickP, pickN, List.getElem?_cons_zero, List.getElem?_cons_succ]
          iterate 3 (refine' chainP_read _ rfl rfl (fun w' hS' => ?_) ?_; rotate_left; · (simp only [lookP, allP, Act.put, List.getElem?_cons_zero, List.getElem?_cons_succ, List.setIfInBounds_toArray, List.set_cons_zero, List.set_cons_succ]; (try dsimp only at hS'); go_simp; (try with_reducible rfl)))
          -- 3: load 58 t26
          refine' chainP_readG (d := (some 172)) _ rfl (fun w' hS' => ?_) ?_; rotate_left
          · simp only [lookP, allP, Act.put, List.getElem?_cons_zero, List.getElem?_cons_succ, List.setIfInBounds_toArray, List.set_cons_zero, List.set_cons_succ]
            refine ⟨by kernel_rfl, ?_⟩
            (try dsimp only at hS')
            go_simp
            (try with_reducible rfl)
          -- 4: move t9
          refine' chainP_readG (d := (some 173)) _ rfl (fun w' hS' => ?_) ?_; rotate_left
          · simp only [lookP, allP, Act.put, List.getElem?_cons_zero, List.getElem?_cons_succ, List.setIfInBounds_toArray, List.set_cons_zero, List.set_cons_succ]
            refine ⟨by kernel_rfl, ?_⟩
            (try dsimp only at hS')
            go_simp
            (try with_reducible rfl)
          -- 5: move t25
          refine' chainP_readG (d := (some 174)) _ rfl (fun w' hS' => ?_) ?_; rotate_left
          · simp only [lookP, allP, Act.put, List.getElem?_cons_zero, List.getElem?_cons_succ, List.setIfInBounds_toArray, List.set_cons_zero, List.set_cons_succ]
            refine ⟨by kernel_rfl, ?_⟩
            (try dsimp only at hS')
            go_simp
            (try with_reducible rfl)
          -- 6: indexAddr 52 t173 t174
          refine' chainP_readG (d := (some 175)) _ rfl (fun w' hS' => ?_) ?_; rotate_left
          · simp only [lookP, allP, Act.put, List.getElem?_cons_zero, List.getElem?_cons_succ, List.setIfInBounds_toArray, List.set_cons_zero, List.set_cons_succ]
            refine ⟨by kernel_rfl, ?_⟩
            (try dsimp only at hS')
            go_simp
            (try with_reducible rfl)
          -- 7: load 58 t175
          refine' chainP_readG (d := (some 176)) _ rfl (fun w' hS' => ?_) ?_; rotate_left
          · simp only [lookP, allP, Act.put, List.getElem?_cons_zero, List.getElem?_cons_succ, List.setIfInBounds_toArray, List.set_cons_zero, List.set_cons_succ]
            refine ⟨by kernel_rfl, ?_⟩
            (try dsimp only at hS')
            go_simp
            (try with_reducible rfl)
          -- 8: binOp Binneq 58 t172 t176 58
          refine' chainP_readG (d := (some 177)) _ rfl (fun w' hS' => ?_) ?_; rotate_left
          · simp only [lookP, allP, Act.put, List.getElem?_cons_zero, List.getElem?_cons_succ, List.setIfInBounds_toArray, List.set_cons_zero, List.set_cons_succ]
            refine ⟨by kernel_rfl, ?_⟩
            (try dsimp only at hS')
            go_simp
            (try with_reducible rfl)
          -- 9: pick t171 (const (bool true)) t177
          refine' chainP_read (d := (some 178)) _ rfl rfl (fun w' hS' => ?_) ?_; rotate_left
          · simp only [lookP, allP, Act.put, List.getElem?_cons_zero, List.getElem?_cons_succ, List.setIfInBounds_toArray, List.set_cons_zero, List.set_cons_succ]
            (try dsimp only at hS')
            go_simp
            (try with_reducible rfl)
          refine chainP_nil (fun ub hS' => ?_)
          simp only [allP, Act.put, List.setIfInBounds_toArray, List.set_cons_zero, List.set_cons_succ]
          have hq2 := hS'.1
          clear hS'
          replace hc := Below.next hc hq2
          replace y_z_0 := box_at y_z_0 hq2
          replace y_z_1 := box_at y_z_1 hq2
          replace d0 := box_at d0 hq2
          replace d1 := box_at d1 hq2
          clear hq2
          have HC2 := Lib.hid hc
          clear hc y_z_0 y_z_1 d0 d1
          go_wp2_with fail
          refine NoPanic.normal ?_
          go_wp2_with fail
          go_roundg (n1c - (k + 1))
          case measure => omega
          case rel => exact ⟨k + 1, by omega, by go_num, HBR.out.trans ((HC1.out.trans (HC2.out.mono HC1.out.size)).mono HBR.out.size)⟩
        · obtain rfl : n1c = k := by omega
          have HBR := Lib.hid hbr
          clear hbr
          go_wp2_with fail
          go_ret
          exact ⟨rfl, HB.out.trans (HBR.out.mono HB.out.size)⟩
end Go.Proofs.Ytboahnklilmdpaa
