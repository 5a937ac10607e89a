/- The walk of FnDealings (printed by gen_lawdea.py). -/
import Derived.Test.YtacpnphfopmofaaEuD
import Derived.Test.YtacpnphfopmofaaDrDe2D
import Derived.Test.YtacpnphfopmofaaDea1D
import Derived.Test.YtacpnphfopmofaaRc3D
import Derived.Test.YtacpnphfopmofaaDeaLD
import Derived.Test.YtacpnphfopmofaaPow2D
import Derived.Test.YtacpnphfopmofaaBaD
import Derived.WalkKit
import Derived.ProofKit
import Derived.OpenShut
import Derived.JoinedCond
import Derived.Lib.SmallJoins
import Derived.Deep.Fields
import Derived.Test.YtacpnphfopmofaaDrG0D
namespace Go.Proofs.Ytacpnphfopmofaa
open Go.RowKit
set_option linter.unusedSimpArgs false
set_option linter.unusedVariables false

theorem spec_DrawReconstructW (v : Value) (w : World) (h : Bytes w v) :
    Calls Try.prog 27 #[v] w fun e w' => (∃ (P Q G : Int) (v1 : Value) (l1 : List Int) (v2 : Value) (l2 : List Int) (v3 : Value) (l3 : List Int), e = .returned (.tuple #[.agg #[.int .i64 P, .int .i64 Q, .int .i64 G], v1, v2, v3]) ∧ GrB ⟨P, Q, G⟩ ∧ (Ints w' v1 l1 ∧ l1.length ≤ 7) ∧ (Ints w' v2 l2 ∧ l2.length ≤ 9) ∧ (Ints w' v3 l3 ∧ l3.length ≤ 9)) ∧ Below w.heap.size w w' := by
  refine (spec_DrawReconstruct v w h).mono ?_
  rintro e w' ⟨⟨P, Q, G, v1, l1, v2, l2, v3, l3, rfl, hg, ⟨h1, k1⟩, ⟨h2, k2⟩, ⟨h3, k3⟩⟩, hb⟩
  exact ⟨⟨P, Q, G, v1, l1, v2, l2, v3, l3, rfl, hg, ⟨h1.here, k1⟩, ⟨h2.here, k2⟩, ⟨h3.here, k3⟩⟩, hb⟩
theorem deal_facts {gr : GroupD} {cs : List Int} {n : Int} {D : DealingD} (h : dlB gr cs n = true) (hD : dlR gr cs n = D) :
    vdB gr D = true ∧ bsR gr D = [] ∧ (1 ≤ n ∧ n ≤ 7) ∧ (1 ≤ cs.length ∧ (cs.length : Int) ≤ n) ∧ (D.s.length : Int) = n ∧ D.s.all (expB gr) = true ∧
    (∀ i, i < D.s.length → dotM gr.q (lagL gr.q (upL cs.length) ((i : Int) + 1)) (D.s.take cs.length) cs.length = nth D.s i) ∧
    rcB gr D.c (dnW n n.toNat) (dnS D.s n n.toNat) = true ∧ rcR gr D.c (dnW n n.toNat) (dnS D.s n n.toNat) = nth cs 0 := by
  obtain ⟨e, h1, h2⟩ := deal_right h
  rw [e] at hD; subst hD
  obtain ⟨hG, hn, hl, he⟩ := dlB_parts h
  obtain ⟨b1, b2⟩ := deal_back h
  have hs : (deD gr cs n).s.length = n.toNat := dsL_len ..
  refine ⟨h1, h2, hn, hl, by rw [hs]; omega, List.all_eq_true.2 fun y hy => mem_dsL (shG_ok hG) hy, fun i hi => ?_, b1, b2⟩
  rw [hs] at hi
  exact deal_even h hi
set_option maxRecDepth 100000 in
set_option maxHeartbeats 8000000 in
theorem law_Dealings (va vb : Value) (w : World) (h1 : Bytes w va) (h2 : Bytes w vb) :
    Calls Try.prog 5 #[va, vb] w fun e w' => e = .returned (.bool true) ∧ Below w.heap.size w w' := by
  obtain ⟨a, m, c, rfl, k1, k2, hv⟩ := h1
  obtain ⟨a', m', c', rfl, k3, k4, hv'⟩ := h2
  have H1 : Hid (Bytes w (.slice a m c)) := ⟨a, m, c, rfl, k1, k2, hv⟩
  have H2 : Hid (Bytes w (.slice a' m' c')) := ⟨a', m', c', rfl, k3, k4, hv'⟩
  clear hv hv'
  unfold maxLen at k2 k4
  by_cases hbig : (1048576 : Int) < wrap64 ((m : Int) + (m' : Int))
  · go_enter Try.func5, Try.ntmps5
    go_wp2_with fail
    go_ret
    exact ⟨rfl, Below.refl _ _⟩
  have HB : Hid (Below w.heap.size w w) := Below.refl _ _
  go_enter Try.func5, Try.ntmps5
  go_wp2_with fail
  try (go_wp2_with fail)
  refine (spec_DrawDealShares _ _ (H1.out.below HB.out)).mono ?_
  rintro e u1 ⟨⟨P1a, Q1a, G1a, v1b, l1b, x1c, rfl, hgr1a, ⟨hs1b, hl1b⟩, ⟨x1cl, x1cu⟩⟩, hb⟩
  clear hgr1a
  have HL1b := Lib.hid hs1b
  obtain ⟨a1b, n1b, c1b, rfl⟩ := hs1b.shape
  have HE1b := Lib.hid hs1b.len
  clear hs1b
  replace HB := Lib.hid (Below.next HB.out hb)
  clear hb
  obtain ⟨V2, hV⟩ : ∃ V, V = u1.alloc (.cells #[.int .i64 P1a, .int .i64 Q1a, .int .i64 G1a] 24) := ⟨_, rfl⟩
  have hbV : Below u1.heap.size u1 V2 := by rw [hV]; (repeat (first | exact Below.refl _ _ | assumption | refine Below.drew ?_ | refine Below.alloc ?_ (by first | (simp; done) | (simp; omega)) _ | refine Below.setCell ?_ (by first | (simp; done) | (simp; omega)) _))
  have HZ1 : Hid (BoxN V2 u1.heap.size 24 [.int .i64 P1a, .int .i64 Q1a, .int .i64 G1a]) := by unfold Hid; rw [hV]; have h := (BoxN.new u1 [.int .i64 P1a, .int .i64 Q1a, .int .i64 G1a] 24); simpa using h
  try (go_wp2_with fail)
  rw [← hV]
  clear hV
  replace HB := Lib.hid (Below.next HB.out hbV)
  replace HL1b := Lib.hid (HL1b.out.below hbV)
  clear hbV
  have z_0_0 := HZ1.out.cell (i := 0) rfl
  have z_0_1 := HZ1.out.cell (i := 1) rfl
  have z_0_2 := HZ1.out.cell (i := 2) rfl
  try (go_wp2_with fail)
  clear z_0_0 z_0_1 z_0_2
  refine (impl_DealShares ⟨P1a, Q1a, G1a⟩ _ l1b x1c _ HL1b.out ⟨by omega, by omega⟩).mono ?_
  rintro e u3 ⟨⟨v3a, v3b, rfl, o3a, o3b⟩, hb⟩
  obtain ⟨D3, hD3⟩ : ∃ d, dlR ⟨P1a, Q1a, G1a⟩ l1b x1c = d := ⟨_, rfl⟩
  have HD3 := Lib.hid hD3
  rw [hD3] at o3a o3b
  clear hD3
  have hs3a := o3a.ints
  clear o3a
  have HL3a := Lib.hid hs3a
  obtain ⟨a3a, n3a, c3a, rfl⟩ := hs3a.shape
  have HE3a := Lib.hid hs3a.len
  clear hs3a
  have hs3b := o3b.ints
  clear o3b
  have HL3b := Lib.hid hs3b
  obtain ⟨a3b, n3b, c3b, rfl⟩ := hs3b.shape
  have HE3b := Lib.hid hs3b.len
  clear hs3b
  obtain ⟨q3, hq3⟩ : ∃ r, dlB ⟨P1a, Q1a, G1a⟩ l1b x1c = r := ⟨_, rfl⟩
  have Hq3 := Lib.hid hq3
  rw [hq3]
  clear hq3
  replace HB := Lib.hid (Below.next HB.out hb)
  replace HZ1 := Lib.hid (HZ1.out.below hb)
  replace HL1b := Lib.hid (HL1b.out.below hb)
  clear hb
  have z_0_0 := HZ1.out.cell (i := 0) rfl
  have z_0_1 := HZ1.out.cell (i := 1) rfl
  have z_0_2 := HZ1.out.cell (i := 2) rfl
  have lt_HZ1 := HZ1.out.lt
  obtain ⟨V4, hV⟩ : ∃ V, V = u3.alloc (.cells #[.slice a3a n3a c3a, .slice a3b n3b c3b] 57) := ⟨_, rfl⟩
  have hbV : Below u3.heap.size u3 V4 := by rw [hV]; (repeat (first | exact Below.refl _ _ | assumption | refine Below.drew ?_ | refine Below.alloc ?_ (by first | (simp; done) | (simp; omega)) _ | refine Below.setCell ?_ (by first | (simp; done) | (simp; omega)) _))
  have HZ2 : Hid (BoxN V4 u3.heap.size 57 [.slice a3a n3a c3a, .slice a3b n3b c3b]) := by unfold Hid; rw [hV]; have h := (BoxN.new u3 [.slice a3a n3a c3a, .slice a3b n3b c3b] 57); simpa using h
  try (go_wp2_with fail)
  rw [← hV]
  clear hV
  clear lt_HZ1
  clear z_0_0 z_0_1 z_0_2
  replace HB := Lib.hid (Below.next HB.out hbV)
  replace HZ1 := Lib.hid (HZ1.out.below hbV)
  replace HL1b := Lib.hid (HL1b.out.below hbV)
  replace HL3a := Lib.hid (HL3a.out.below hbV)
  replace HL3b := Lib.hid (HL3b.out.below hbV)
  clear hbV
  have z_0_0 := HZ1.out.cell (i := 0) rfl
  have z_0_1 := HZ1.out.cell (i := 1) rfl
  have z_0_2 := HZ1.out.cell (i := 2) rfl
  have z_1_0 := HZ2.out.cell (i := 0) rfl
  have z_1_1 := HZ2.out.cell (i := 1) rfl
  try (go_wp2_with fail)
  clear z_0_0 z_0_1 z_0_2 z_1_0 z_1_1
  refine (spec_DealShares ⟨P1a, Q1a, G1a⟩ _ l1b x1c _ HL1b.out ⟨by omega, by omega⟩).mono ?_
  rintro e u5 ⟨⟨v5a, v5b, rfl, o5a, o5b⟩, hb⟩
  rw [HD3.out] at o5a o5b
  have hs5a := o5a.ints
  clear o5a
  have HL5a := Lib.hid hs5a
  obtain ⟨a5a, n5a, c5a, rfl⟩ := hs5a.shape
  have HE5a := Lib.hid hs5a.len
  clear hs5a
  have hs5b := o5b.ints
  clear o5b
  have HL5b := Lib.hid hs5b
  obtain ⟨a5b, n5b, c5b, rfl⟩ := hs5b.shape
  have HE5b := Lib.hid hs5b.len
  clear hs5b
  rw [Hq3.out]
  replace HB := Lib.hid (Below.next HB.out hb)
  replace HZ1 := Lib.hid (HZ1.out.below hb)
  replace HZ2 := Lib.hid (HZ2.out.below hb)
  replace HL1b := Lib.hid (HL1b.out.below hb)
  replace HL3a := Lib.hid (HL3a.out.below hb)
  replace HL3b := Lib.hid (HL3b.out.below hb)
  clear hb
  have z_0_0 := HZ1.out.cell (i := 0) rfl
  have z_0_1 := HZ1.out.cell (i := 1) rfl
  have z_0_2 := HZ1.out.cell (i := 2) rfl
  have z_1_0 := HZ2.out.cell (i := 0) rfl
  have z_1_1 := HZ2.out.cell (i := 1) rfl
  have lt_HZ1 := HZ1.out.lt
  have lt_HZ2 := HZ2.out.lt
  obtain ⟨V6, hV⟩ : ∃ V, V = u5.alloc (.cells #[.slice a5a n5a c5a, .slice a5b n5b c5b] 57) := ⟨_, rfl⟩
  have hbV : Below u5.heap.size u5 V6 := by rw [hV]; (repeat (first | exact Below.refl _ _ | assumption | refine Below.drew ?_ | refine Below.alloc ?_ (by first | (simp; done) | (simp; omega)) _ | refine Below.setCell ?_ (by first | (simp; done) | (simp; omega)) _))
  have HZ3 : Hid (BoxN V6 u5.heap.size 57 [.slice a5a n5a c5a, .slice a5b n5b c5b]) := by unfold Hid; rw [hV]; have h := (BoxN.new u5 [.slice a5a n5a c5a, .slice a5b n5b c5b] 57); simpa using h
  try (go_wp2_with fail)
  rw [← hV]
  clear hV
  clear lt_HZ1
  clear lt_HZ2
  clear z_0_0 z_0_1 z_0_2 z_1_0 z_1_1
  replace HB := Lib.hid (Below.next HB.out hbV)
  replace HZ1 := Lib.hid (HZ1.out.below hbV)
  replace HZ2 := Lib.hid (HZ2.out.below hbV)
  replace HL1b := Lib.hid (HL1b.out.below hbV)
  replace HL3a := Lib.hid (HL3a.out.below hbV)
  replace HL3b := Lib.hid (HL3b.out.below hbV)
  replace HL5a := Lib.hid (HL5a.out.below hbV)
  replace HL5b := Lib.hid (HL5b.out.below hbV)
  clear hbV
  have z_0_0 := HZ1.out.cell (i := 0) rfl
  have z_0_1 := HZ1.out.cell (i := 1) rfl
  have z_0_2 := HZ1.out.cell (i := 2) rfl
  have z_1_0 := HZ2.out.cell (i := 0) rfl
  have z_1_1 := HZ2.out.cell (i := 1) rfl
  have z_2_0 := HZ3.out.cell (i := 0) rfl
  have z_2_1 := HZ3.out.cell (i := 1) rfl
  try (go_wp2_with fail)
  clear z_0_0 z_0_1 z_0_2 z_1_0 z_1_1 z_2_0 z_2_1
  refine (spec_DrawReconstructW _ _ (H2.out.below HB.out)).mono ?_
  rintro e u7 ⟨⟨P7a, Q7a, G7a, v7b, l7b, v7c, l7c, v7d, l7d, rfl, hgr7a, ⟨hs7b, hl7b⟩, ⟨hs7c, hl7c⟩, ⟨hs7d, hl7d⟩⟩, hb⟩
  clear hgr7a
  have HL7b := Lib.hid hs7b
  obtain ⟨a7b, n7b, c7b, rfl⟩ := hs7b.shape
  have HE7b := Lib.hid hs7b.len
  clear hs7b
  have HL7c := Lib.hid hs7c
  obtain ⟨a7c, n7c, c7c, rfl⟩ := hs7c.shape
  have HE7c := Lib.hid hs7c.len
  clear hs7c
  have HL7d := Lib.hid hs7d
  obtain ⟨a7d, n7d, c7d, rfl⟩ := hs7d.shape
  have HE7d := Lib.hid hs7d.len
  clear hs7d
  replace HB := Lib.hid (Below.next HB.out hb)
  replace HZ1 := Lib.hid (HZ1.out.below hb)
  replace HZ2 := Lib.hid (HZ2.out.below hb)
  replace HZ3 := Lib.hid (HZ3.out.below hb)
  replace HL1b := Lib.hid (HL1b.out.below hb)
  replace HL3a := Lib.hid (HL3a.out.below hb)
  replace HL3b := Lib.hid (HL3b.out.below hb)
  replace HL5a := Lib.hid (HL5a.out.below hb)
  replace HL5b := Lib.hid (HL5b.out.below hb)
  clear hb
  have z_0_0 := HZ1.out.cell (i := 0) rfl
  have z_0_1 := HZ1.out.cell (i := 1) rfl
  have z_0_2 := HZ1.out.cell (i := 2) rfl
  have z_1_0 := HZ2.out.cell (i := 0) rfl
  have z_1_1 := HZ2.out.cell (i := 1) rfl
  have z_2_0 := HZ3.out.cell (i := 0) rfl
  have z_2_1 := HZ3.out.cell (i := 1) rfl
  have lt_HZ1 := HZ1.out.lt
  have lt_HZ2 := HZ2.out.lt
  have lt_HZ3 := HZ3.out.lt
  obtain ⟨V8, hV⟩ : ∃ V, V = u7.alloc (.cells #[.int .i64 P7a, .int .i64 Q7a, .int .i64 G7a] 24) := ⟨_, rfl⟩
  have hbV : Below u7.heap.size u7 V8 := by rw [hV]; (repeat (first | exact Below.refl _ _ | assumption | refine Below.drew ?_ | refine Below.alloc ?_ (by first | (simp; done) | (simp; omega)) _ | refine Below.setCell ?_ (by first | (simp; done) | (simp; omega)) _))
  have HZ4 : Hid (BoxN V8 u7.heap.size 24 [.int .i64 P7a, .int .i64 Q7a, .int .i64 G7a]) := by unfold Hid; rw [hV]; have h := (BoxN.new u7 [.int .i64 P7a, .int .i64 Q7a, .int .i64 G7a] 24); simpa using h
  try (go_wp2_with fail)
  rw [← hV]
  clear hV
  clear lt_HZ1
  clear lt_HZ2
  clear lt_HZ3
  clear z_0_0 z_0_1 z_0_2 z_1_0 z_1_1 z_2_0 z_2_1
  replace HB := Lib.hid (Below.next HB.out hbV)
  replace HZ1 := Lib.hid (HZ1.out.below hbV)
  replace HZ2 := Lib.hid (HZ2.out.below hbV)
  replace HZ3 := Lib.hid (HZ3.out.below hbV)
  replace HL1b := Lib.hid (HL1b.out.below hbV)
  replace HL3a := Lib.hid (HL3a.out.below hbV)
  replace HL3b := Lib.hid (HL3b.out.below hbV)
  replace HL5a := Lib.hid (HL5a.out.below hbV)
  replace HL5b := Lib.hid (HL5b.out.below hbV)
  replace HL7b := Lib.hid (HL7b.out.below hbV)
  replace HL7c := Lib.hid (HL7c.out.below hbV)
  replace HL7d := Lib.hid (HL7d.out.below hbV)
  clear hbV
  have z_0_0 := HZ1.out.cell (i := 0) rfl
  have z_0_1 := HZ1.out.cell (i := 1) rfl
  have z_0_2 := HZ1.out.cell (i := 2) rfl
  have z_1_0 := HZ2.out.cell (i := 0) rfl
  have z_1_1 := HZ2.out.cell (i := 1) rfl
  have z_2_0 := HZ3.out.cell (i := 0) rfl
  have z_2_1 := HZ3.out.cell (i := 1) rfl
  have z_3_0 := HZ4.out.cell (i := 0) rfl
  have z_3_1 := HZ4.out.cell (i := 1) rfl
  have z_3_2 := HZ4.out.cell (i := 2) rfl
  try (go_wp2_with fail)
  clear z_0_0 z_0_1 z_0_2 z_1_0 z_1_1 z_2_0 z_2_1 z_3_0 z_3_1 z_3_2
  refine (impl_Reconstruct ⟨P7a, Q7a, G7a⟩ _ l7b _ l7c _ l7d _ HL7b.out HL7c.out HL7d.out).mono ?_
  rintro e u9 ⟨rfl, hb⟩
  obtain ⟨r9a, hr9a⟩ : ∃ r, rcR ⟨P7a, Q7a, G7a⟩ l7b l7c l7d = r := ⟨_, rfl⟩
  have Hr9a := Lib.hid hr9a
  rw [hr9a]
  clear hr9a
  obtain ⟨q9b, hq9b⟩ : ∃ r, rcB ⟨P7a, Q7a, G7a⟩ l7b l7c l7d = r := ⟨_, rfl⟩
  have Hq9b := Lib.hid hq9b
  rw [hq9b]
  clear hq9b
  replace HB := Lib.hid (Below.next HB.out hb)
  replace HZ1 := Lib.hid (HZ1.out.below hb)
  replace HZ2 := Lib.hid (HZ2.out.below hb)
  replace HZ3 := Lib.hid (HZ3.out.below hb)
  replace HZ4 := Lib.hid (HZ4.out.below hb)
  replace HL1b := Lib.hid (HL1b.out.below hb)
  replace HL3a := Lib.hid (HL3a.out.below hb)
  replace HL3b := Lib.hid (HL3b.out.below hb)
  replace HL5a := Lib.hid (HL5a.out.below hb)
  replace HL5b := Lib.hid (HL5b.out.below hb)
  replace HL7b := Lib.hid (HL7b.out.below hb)
  replace HL7c := Lib.hid (HL7c.out.below hb)
  replace HL7d := Lib.hid (HL7d.out.below hb)
  clear hb
  have z_0_0 := HZ1.out.cell (i := 0) rfl
  have z_0_1 := HZ1.out.cell (i := 1) rfl
  have z_0_2 := HZ1.out.cell (i := 2) rfl
  have z_1_0 := HZ2.out.cell (i := 0) rfl
  have z_1_1 := HZ2.out.cell (i := 1) rfl
  have z_2_0 := HZ3.out.cell (i := 0) rfl
  have z_2_1 := HZ3.out.cell (i := 1) rfl
  have z_3_0 := HZ4.out.cell (i := 0) rfl
  have z_3_1 := HZ4.out.cell (i := 1) rfl
  have z_3_2 := HZ4.out.cell (i := 2) rfl
  try (go_wp2_with fail)
  clear z_0_0 z_0_1 z_0_2 z_1_0 z_1_1 z_2_0 z_2_1 z_3_0 z_3_1 z_3_2
  refine (spec_Reconstruct ⟨P7a, Q7a, G7a⟩ _ l7b _ l7c _ l7d _ HL7b.out HL7c.out HL7d.out).mono ?_
  rintro e u10 ⟨rfl, hb⟩
  rw [Hr9a.out]
  rw [Hq9b.out]
  replace HB := Lib.hid (Below.next HB.out hb)
  replace HZ1 := Lib.hid (HZ1.out.below hb)
  replace HZ2 := Lib.hid (HZ2.out.below hb)
  replace HZ3 := Lib.hid (HZ3.out.below hb)
  replace HZ4 := Lib.hid (HZ4.out.below hb)
  replace HL1b := Lib.hid (HL1b.out.below hb)
  replace HL3a := Lib.hid (HL3a.out.below hb)
  replace HL3b := Lib.hid (HL3b.out.below hb)
  replace HL5a := Lib.hid (HL5a.out.below hb)
  replace HL5b := Lib.hid (HL5b.out.below hb)
  replace HL7b := Lib.hid (HL7b.out.below hb)
  replace HL7c := Lib.hid (HL7c.out.below hb)
  replace HL7d := Lib.hid (HL7d.out.below hb)
  clear hb
  have eq_q3 : (q3 == q3) = true := by simp
  have z_0_0 := HZ1.out.cell (i := 0) rfl
  have z_0_1 := HZ1.out.cell (i := 1) rfl
  have z_0_2 := HZ1.out.cell (i := 2) rfl
  have z_1_0 := HZ2.out.cell (i := 0) rfl
  have z_1_1 := HZ2.out.cell (i := 1) rfl
  have z_2_0 := HZ3.out.cell (i := 0) rfl
  have z_2_1 := HZ3.out.cell (i := 1) rfl
  have z_3_0 := HZ4.out.cell (i := 0) rfl
  have z_3_1 := HZ4.out.cell (i := 1) rfl
  have z_3_2 := HZ4.out.cell (i := 2) rfl
  try (go_wp2_with fail)
  clear z_0_0 z_0_1 z_0_2 z_1_0 z_1_1 z_2_0 z_2_1 z_3_0 z_3_1 z_3_2
  refine (laws_qDealing _ _ D3 _ (DlR.mk HL3a.out HL3b.out) (DlR.mk HL5a.out HL5b.out)).mono ?_
  rintro e u11 ⟨rfl, hb⟩
  replace HB := Lib.hid (Below.next HB.out hb)
  replace HZ1 := Lib.hid (HZ1.out.below hb)
  replace HZ2 := Lib.hid (HZ2.out.below hb)
  replace HZ3 := Lib.hid (HZ3.out.below hb)
  replace HZ4 := Lib.hid (HZ4.out.below hb)
  replace HL1b := Lib.hid (HL1b.out.below hb)
  replace HL3a := Lib.hid (HL3a.out.below hb)
  replace HL3b := Lib.hid (HL3b.out.below hb)
  replace HL5a := Lib.hid (HL5a.out.below hb)
  replace HL5b := Lib.hid (HL5b.out.below hb)
  replace HL7b := Lib.hid (HL7b.out.below hb)
  replace HL7c := Lib.hid (HL7c.out.below hb)
  replace HL7d := Lib.hid (HL7d.out.below hb)
  clear hb
  have eq_q9b : (q9b == q9b) = true := by simp
  have eq_r9a : (r9a == r9a) = true := by simp
  cases q9b with
  | false =>
    cases q3 with
    | false =>
      have z_0_0 := HZ1.out.cell (i := 0) rfl
      have z_0_1 := HZ1.out.cell (i := 1) rfl
      have z_0_2 := HZ1.out.cell (i := 2) rfl
      have z_1_0 := HZ2.out.cell (i := 0) rfl
      have z_1_1 := HZ2.out.cell (i := 1) rfl
      have z_2_0 := HZ3.out.cell (i := 0) rfl
      have z_2_1 := HZ3.out.cell (i := 1) rfl
      have z_3_0 := HZ4.out.cell (i := 0) rfl
      have z_3_1 := HZ4.out.cell (i := 1) rfl
      have z_3_2 := HZ4.out.cell (i := 2) rfl
      try (go_wp2_with fail)
      clear z_0_0 z_0_1 z_0_2 z_1_0 z_1_1 z_2_0 z_2_1 z_3_0 z_3_1 z_3_2
      go_ret
      exact ⟨rfl, HB.out⟩
    | true =>
      obtain ⟨t1, t2, t3, t4, t5, t6, t7, t8, t9⟩ := deal_facts Hq3.out HD3.out
      have HVD := Lib.hid t1
      have HBN := Lib.hid t2
      have HNB := Lib.hid t3
      have HLN := Lib.hid t4
      have HSL := Lib.hid t5
      have HSE := Lib.hid t6
      have HCO := Lib.hid t7
      obtain ⟨y0, hy0⟩ : ∃ y, nth l1b 0 = y := ⟨_, rfl⟩
      have Hy0 := Lib.hid hy0
      rw [hy0] at t9
      have HRB := Lib.hid t8
      have HRV := Lib.hid t9
      have HSG : Hid (shG ⟨P1a, Q1a, G1a⟩ = true) := by unfold vdB at t1; rw [Bool.and_eq_true] at t1; exact t1.1
      clear t1 t2 t3 t4 t5 t6 t7 t8 t9 hy0
      have z_0_0 := HZ1.out.cell (i := 0) rfl
      have z_0_1 := HZ1.out.cell (i := 1) rfl
      have z_0_2 := HZ1.out.cell (i := 2) rfl
      have z_1_0 := HZ2.out.cell (i := 0) rfl
      have z_1_1 := HZ2.out.cell (i := 1) rfl
      have z_2_0 := HZ3.out.cell (i := 0) rfl
      have z_2_1 := HZ3.out.cell (i := 1) rfl
      have z_3_0 := HZ4.out.cell (i := 0) rfl
      have z_3_1 := HZ4.out.cell (i := 1) rfl
      have z_3_2 := HZ4.out.cell (i := 2) rfl
      try (go_wp2_with fail)
      clear z_0_0 z_0_1 z_0_2 z_1_0 z_1_1 z_2_0 z_2_1 z_3_0 z_3_1 z_3_2
      refine (impl_BadShares ⟨P1a, Q1a, G1a⟩ _ D3 _ (DlR.mk HL3a.out HL3b.out)).mono ?_
      rintro e u12 ⟨⟨v12, rfl, hs12⟩, hb⟩
      rw [HVD.out]
      rw [HBN.out] at hs12
      have HL12 := Lib.hid hs12
      obtain ⟨a12, n12, c12, rfl⟩ := hs12.shape
      have HE12 := Lib.hid hs12.len
      clear hs12
      have hz12 : n12 = 0 := by have h := HE12.out; simpa using h.symm
      subst hz12
      replace HB := Lib.hid (Below.next HB.out hb)
      replace HZ1 := Lib.hid (HZ1.out.below hb)
      replace HZ2 := Lib.hid (HZ2.out.below hb)
      replace HZ3 := Lib.hid (HZ3.out.below hb)
      replace HZ4 := Lib.hid (HZ4.out.below hb)
      replace HL1b := Lib.hid (HL1b.out.below hb)
      replace HL3a := Lib.hid (HL3a.out.below hb)
      replace HL3b := Lib.hid (HL3b.out.below hb)
      replace HL5a := Lib.hid (HL5a.out.below hb)
      replace HL5b := Lib.hid (HL5b.out.below hb)
      replace HL7b := Lib.hid (HL7b.out.below hb)
      replace HL7c := Lib.hid (HL7c.out.below hb)
      replace HL7d := Lib.hid (HL7d.out.below hb)
      clear hb
      have z_0_0 := HZ1.out.cell (i := 0) rfl
      have z_0_1 := HZ1.out.cell (i := 1) rfl
      have z_0_2 := HZ1.out.cell (i := 2) rfl
      have z_1_0 := HZ2.out.cell (i := 0) rfl
      have z_1_1 := HZ2.out.cell (i := 1) rfl
      have z_2_0 := HZ3.out.cell (i := 0) rfl
      have z_2_1 := HZ3.out.cell (i := 1) rfl
      have z_3_0 := HZ4.out.cell (i := 0) rfl
      have z_3_1 := HZ4.out.cell (i := 1) rfl
      have z_3_2 := HZ4.out.cell (i := 2) rfl
      try (go_wp2_with fail)
      clear z_0_0 z_0_1 z_0_2 z_1_0 z_1_1 z_2_0 z_2_1 z_3_0 z_3_1 z_3_2
      refine (impl_AreConsistent ⟨P1a, Q1a, G1a⟩ n1b _ D3.s _ HL3b.out HSG.out (by have := HLN.out; have := HE1b.out; omega) (by have := HLN.out; have := HE1b.out; have := HSL.out; omega) (by have := HSL.out; have := HNB.out; omega) HSE.out (by rw [← HE1b.out]; exact HCO.out)).mono ?_
      rintro e u13 ⟨rfl, hb⟩
      replace HB := Lib.hid (Below.next HB.out hb)
      replace HZ1 := Lib.hid (HZ1.out.below hb)
      replace HZ2 := Lib.hid (HZ2.out.below hb)
      replace HZ3 := Lib.hid (HZ3.out.below hb)
      replace HZ4 := Lib.hid (HZ4.out.below hb)
      replace HL1b := Lib.hid (HL1b.out.below hb)
      replace HL3a := Lib.hid (HL3a.out.below hb)
      replace HL3b := Lib.hid (HL3b.out.below hb)
      replace HL5a := Lib.hid (HL5a.out.below hb)
      replace HL5b := Lib.hid (HL5b.out.below hb)
      replace HL7b := Lib.hid (HL7b.out.below hb)
      replace HL7c := Lib.hid (HL7c.out.below hb)
      replace HL7d := Lib.hid (HL7d.out.below hb)
      replace HL12 := Lib.hid (HL12.out.below hb)
      clear hb
      have z_0_0 := HZ1.out.cell (i := 0) rfl
      have z_0_1 := HZ1.out.cell (i := 1) rfl
      have z_0_2 := HZ1.out.cell (i := 2) rfl
      have z_1_0 := HZ2.out.cell (i := 0) rfl
      have z_1_1 := HZ2.out.cell (i := 1) rfl
      have z_2_0 := HZ3.out.cell (i := 0) rfl
      have z_2_1 := HZ3.out.cell (i := 1) rfl
      have z_3_0 := HZ4.out.cell (i := 0) rfl
      have z_3_1 := HZ4.out.cell (i := 1) rfl
      have z_3_2 := HZ4.out.cell (i := 2) rfl
      try (go_wp2_with fail)
      clear z_0_0 z_0_1 z_0_2 z_1_0 z_1_1 z_2_0 z_2_1 z_3_0 z_3_1 z_3_2
      refine (impl_IsValidDealing ⟨P1a, Q1a, G1a⟩ _ D3 _ (DlR.mk HL3a.out HL3b.out)).mono ?_
      rintro e u14 ⟨rfl, hb⟩
      rw [HVD.out]
      replace HB := Lib.hid (Below.next HB.out hb)
      replace HZ1 := Lib.hid (HZ1.out.below hb)
      replace HZ2 := Lib.hid (HZ2.out.below hb)
      replace HZ3 := Lib.hid (HZ3.out.below hb)
      replace HZ4 := Lib.hid (HZ4.out.below hb)
      replace HL1b := Lib.hid (HL1b.out.below hb)
      replace HL3a := Lib.hid (HL3a.out.below hb)
      replace HL3b := Lib.hid (HL3b.out.below hb)
      replace HL5a := Lib.hid (HL5a.out.below hb)
      replace HL5b := Lib.hid (HL5b.out.below hb)
      replace HL7b := Lib.hid (HL7b.out.below hb)
      replace HL7c := Lib.hid (HL7c.out.below hb)
      replace HL7d := Lib.hid (HL7d.out.below hb)
      replace HL12 := Lib.hid (HL12.out.below hb)
      clear hb
      have z_0_0 := HZ1.out.cell (i := 0) rfl
      have z_0_1 := HZ1.out.cell (i := 1) rfl
      have z_0_2 := HZ1.out.cell (i := 2) rfl
      have z_1_0 := HZ2.out.cell (i := 0) rfl
      have z_1_1 := HZ2.out.cell (i := 1) rfl
      have z_2_0 := HZ3.out.cell (i := 0) rfl
      have z_2_1 := HZ3.out.cell (i := 1) rfl
      have z_3_0 := HZ4.out.cell (i := 0) rfl
      have z_3_1 := HZ4.out.cell (i := 1) rfl
      have z_3_2 := HZ4.out.cell (i := 2) rfl
      try (go_wp2_with fail)
      clear z_0_0 z_0_1 z_0_2 z_1_0 z_1_1 z_2_0 z_2_1 z_3_0 z_3_1 z_3_2
      obtain ⟨N, hN⟩ : ∃ N : Nat, (N : Int) = x1c := ⟨(x1c).toNat, by have := HNB.out; omega⟩
      have hN7 : N ≤ 7 := by have := HNB.out; omega
      have HN := Lib.hid hN
      go_loopg [26, 27] N (fun gk wv iv wr => ∃ k : Nat, k + gk = N ∧ iv = .int .i64 (gk : Int) ∧ Hid (OwnI wr u14.heap.size wv (dnW x1c k)) ∧ Below u14.heap.size u14 wr)
      case atStart => exact ⟨0, by omega, by rw [hN], OwnI.nil _ _, Below.refl _ _⟩
      case round =>
        clear hN
        obtain ⟨k, hkg, rfl, HO, hbr⟩ := hrel
        obtain ⟨oa, oc, rfl⟩ := HO.out.shape
        have HOL := Lib.hid (dnW_len x1c k)
        rw [HOL.out] at HO ⊢
        by_cases hlt : 0 < gk
        · have b1 : decide ((0 : Int) < (gk : Int)) = true := decide_eq_true (by omega)
          have b2 : (0 : Int) < (gk : Int) := by omega
          have ewk : IntKind.i64.wrap ((gk : Int) - 1) = ((gk - 1 : Nat) : Int) := by rw [show (gk : Int) - 1 = ((gk - 1 : Nat) : Int) by omega]; exact IntWalk.i64_in _ (by omega)
          have HGI : Hid (I64 (gk : Int)) := ⟨by omega, by omega⟩
          have HEQ : Hid (dnW x1c (k + 1) = dnW x1c k ++ [(gk : Int)]) := by unfold Hid; rw [show dnW x1c (k + 1) = dnW x1c k ++ [x1c - (k : Int)] from rfl, show x1c - (k : Int) = (gk : Int) by have := HN.out; omega]
          have HBR := Lib.hid hbr
          clear hbr
          go_wp2_with (at_builtin; refine wpList_append_intsN rfl _ _ rfl u14.heap.size _ _ (dnW x1c k) [(gk : Int)] rfl (HO.out.alloc _) rfl (Ints.lit1 _ HGI.out) (by rw [HOL.out]; simp; omega) (by have := HBR.out.size; simp; omega) (k + 1) (by rw [HOL.out]; rfl) ?_; intro a5 c5 w5 hown5 hgr5; have hb5 : Below u14.heap.size wr w5 := ((Below.refl u14.heap.size wr).alloc HBR.out.size _).trans ((HO.out.alloc _).grown hgr5 (by have := HBR.out.size; simp; omega)); have HO5 := Lib.hid hown5; have HB5 := Lib.hid (HBR.out.trans hb5); clear hown5 hgr5 hb5)
          go_roundg (gk - 1)
          case measure => omega
          case rel => exact ⟨k + 1, by omega, by first | rfl | go_num, by unfold Hid; rw [HEQ.out]; exact HO5.out, HB5.out⟩
        · obtain rfl : gk = 0 := by omega
          obtain rfl : N = k := by omega
          have HOW := Lib.hid (HO.out.ints)
          have hswh := HOW.out
          have HEwh := Lib.hid hswh.len
          have HLwh := Lib.hid hswh
          obtain ⟨wN, hwN⟩ : ∃ u, u = wr := ⟨_, rfl⟩
          rw [← hwN] at HLwh hbr ⊢
          clear hswh HO HOL HOW hwN hlt
          replace HB := Lib.hid (Below.next HB.out hbr)
          replace HZ1 := Lib.hid (HZ1.out.below hbr)
          replace HZ2 := Lib.hid (HZ2.out.below hbr)
          replace HZ3 := Lib.hid (HZ3.out.below hbr)
          replace HZ4 := Lib.hid (HZ4.out.below hbr)
          replace HL1b := Lib.hid (HL1b.out.below hbr)
          replace HL3a := Lib.hid (HL3a.out.below hbr)
          replace HL3b := Lib.hid (HL3b.out.below hbr)
          replace HL5a := Lib.hid (HL5a.out.below hbr)
          replace HL5b := Lib.hid (HL5b.out.below hbr)
          replace HL7b := Lib.hid (HL7b.out.below hbr)
          replace HL7c := Lib.hid (HL7c.out.below hbr)
          replace HL7d := Lib.hid (HL7d.out.below hbr)
          replace HL12 := Lib.hid (HL12.out.below hbr)
          clear hbr
          have z_0_0 := HZ1.out.cell (i := 0) rfl
          have z_0_1 := HZ1.out.cell (i := 1) rfl
          have z_0_2 := HZ1.out.cell (i := 2) rfl
          have z_1_0 := HZ2.out.cell (i := 0) rfl
          have z_1_1 := HZ2.out.cell (i := 1) rfl
          have z_2_0 := HZ3.out.cell (i := 0) rfl
          have z_2_1 := HZ3.out.cell (i := 1) rfl
          have z_3_0 := HZ4.out.cell (i := 0) rfl
          have z_3_1 := HZ4.out.cell (i := 1) rfl
          have z_3_2 := HZ4.out.cell (i := 2) rfl
          try (go_wp2_with fail)
          clear z_0_0 z_0_1 z_0_2 z_1_0 z_1_1 z_2_0 z_2_1 z_3_0 z_3_1 z_3_2
          go_loopg [28, 29] N (fun gk wv iv wr => ∃ k : Nat, k + gk = N ∧ iv = .int .i64 (gk : Int) ∧ Hid (OwnI wr wN.heap.size wv (dnS D3.s x1c k)) ∧ Below wN.heap.size wN wr)
          case atStart => exact ⟨0, by omega, by rw [HN.out], OwnI.nil _ _, Below.refl _ _⟩
          case round =>
            obtain ⟨k, hkg, rfl, HO, hbr⟩ := hrel
            obtain ⟨pa, pc, rfl⟩ := HO.out.shape
            have HOL := Lib.hid (dnS_len D3.s x1c k)
            rw [HOL.out] at HO ⊢
            by_cases hlt : 0 < gk
            · have b1 : decide ((0 : Int) < (gk : Int)) = true := decide_eq_true (by omega)
              have b2 : (0 : Int) < (gk : Int) := by omega
              have ewk : IntKind.i64.wrap ((gk : Int) - 1) = ((gk - 1 : Nat) : Int) := by rw [show (gk : Int) - 1 = ((gk - 1 : Nat) : Int) by omega]; exact IntWalk.i64_in _ (by omega)
              have hjn : gk - 1 < n3b := by have := HN.out; have := HSL.out; have := HE3b.out; omega
              obtain ⟨sb, so, hsa, hpc⟩ := HL3b.out.at_ (by omega)
              have ys := box_at (hpc _ hjn) hbr
              have hyI := nth_64 HL3b.out (gk - 1)
              have hsa' := hsa
              subst hsa'
              clear hsa hpc
              have HEQ : Hid (dnS D3.s x1c (k + 1) = dnS D3.s x1c k ++ [nth D3.s (gk - 1)]) := by unfold Hid; rw [show dnS D3.s x1c (k + 1) = dnS D3.s x1c k ++ [nth D3.s (x1c - (k : Int) - 1).toNat] from rfl, show (x1c - (k : Int) - 1).toNat = gk - 1 by have := HN.out; omega]
              obtain ⟨z, hz⟩ : ∃ y, nth D3.s (gk - 1) = y := ⟨_, rfl⟩
              rw [hz] at ys hyI HEQ
              have HGI := Lib.hid hyI
              clear hz hyI
              have b3 : (0 : Int) ≤ ((gk - 1 : Nat) : Int) := by omega
              have b4 : ((gk - 1 : Nat) : Int) < (n3b : Int) := by omega
              have d0 := box_at (HZ2.out.cell (i := 0) rfl) hbr
              have d1 := box_at (HZ2.out.cell (i := 1) rfl) hbr
              have HBR := Lib.hid hbr
              clear hbr
              go_wp2_with (at_builtin; refine wpList_append_intsN rfl _ _ rfl wN.heap.size _ _ (dnS D3.s x1c k) [z] rfl (HO.out.alloc _) rfl (Ints.lit1 _ HGI.out) (by rw [HOL.out]; simp; omega) (by have := HBR.out.size; simp; omega) (k + 1) (by rw [HOL.out]; rfl) ?_; intro a5 c5 w5 hown5 hgr5; have hb5 : Below wN.heap.size wr w5 := ((Below.refl wN.heap.size wr).alloc HBR.out.size _).trans ((HO.out.alloc _).grown hgr5 (by have := HBR.out.size; simp; omega)); have HO5 := Lib.hid hown5; have HB5 := Lib.hid (HBR.out.trans hb5); clear hown5 hgr5 hb5)
              go_roundg (gk - 1)
              case measure => omega
              case rel => exact ⟨k + 1, by omega, by first | rfl | go_num, by unfold Hid; rw [HEQ.out]; exact HO5.out, HB5.out⟩
            · obtain rfl : gk = 0 := by omega
              obtain rfl : N = k := by omega
              have HOW := Lib.hid (HO.out.ints)
              have hswh := HOW.out
              have HEbk := Lib.hid hswh.len
              have HLbk := Lib.hid hswh
              obtain ⟨wM, hwM⟩ : ∃ u, u = wr := ⟨_, rfl⟩
              rw [← hwM] at HLbk hbr ⊢
              clear hswh HO HOL HOW hwM hlt
              have hNn : (x1c).toNat = N := by have := HN.out; omega
              rw [hNn] at HRB HRV
              clear hNn
              replace HB := Lib.hid (Below.next HB.out hbr)
              replace HZ1 := Lib.hid (HZ1.out.below hbr)
              replace HZ2 := Lib.hid (HZ2.out.below hbr)
              replace HZ3 := Lib.hid (HZ3.out.below hbr)
              replace HZ4 := Lib.hid (HZ4.out.below hbr)
              replace HL1b := Lib.hid (HL1b.out.below hbr)
              replace HL3a := Lib.hid (HL3a.out.below hbr)
              replace HL3b := Lib.hid (HL3b.out.below hbr)
              replace HL5a := Lib.hid (HL5a.out.below hbr)
              replace HL5b := Lib.hid (HL5b.out.below hbr)
              replace HL7b := Lib.hid (HL7b.out.below hbr)
              replace HL7c := Lib.hid (HL7c.out.below hbr)
              replace HL7d := Lib.hid (HL7d.out.below hbr)
              replace HL12 := Lib.hid (HL12.out.below hbr)
              replace HLwh := Lib.hid (HLwh.out.below hbr)
              clear hbr
              have z_0_0 := HZ1.out.cell (i := 0) rfl
              have z_0_1 := HZ1.out.cell (i := 1) rfl
              have z_0_2 := HZ1.out.cell (i := 2) rfl
              have z_1_0 := HZ2.out.cell (i := 0) rfl
              have z_1_1 := HZ2.out.cell (i := 1) rfl
              have z_2_0 := HZ3.out.cell (i := 0) rfl
              have z_2_1 := HZ3.out.cell (i := 1) rfl
              have z_3_0 := HZ4.out.cell (i := 0) rfl
              have z_3_1 := HZ4.out.cell (i := 1) rfl
              have z_3_2 := HZ4.out.cell (i := 2) rfl
              try (go_wp2_with fail)
              clear z_0_0 z_0_1 z_0_2 z_1_0 z_1_1 z_2_0 z_2_1 z_3_0 z_3_1 z_3_2
              refine (impl_Reconstruct ⟨P1a, Q1a, G1a⟩ _ D3.c _ (dnW x1c N) _ (dnS D3.s x1c N) _ HL3a.out HLwh.out HLbk.out).mono ?_
              rintro e u15 ⟨rfl, hb⟩
              rw [HRB.out, HRV.out]
              replace HB := Lib.hid (Below.next HB.out hb)
              replace HZ1 := Lib.hid (HZ1.out.below hb)
              replace HZ2 := Lib.hid (HZ2.out.below hb)
              replace HZ3 := Lib.hid (HZ3.out.below hb)
              replace HZ4 := Lib.hid (HZ4.out.below hb)
              replace HL1b := Lib.hid (HL1b.out.below hb)
              replace HL3a := Lib.hid (HL3a.out.below hb)
              replace HL3b := Lib.hid (HL3b.out.below hb)
              replace HL5a := Lib.hid (HL5a.out.below hb)
              replace HL5b := Lib.hid (HL5b.out.below hb)
              replace HL7b := Lib.hid (HL7b.out.below hb)
              replace HL7c := Lib.hid (HL7c.out.below hb)
              replace HL7d := Lib.hid (HL7d.out.below hb)
              replace HL12 := Lib.hid (HL12.out.below hb)
              replace HLwh := Lib.hid (HLwh.out.below hb)
              replace HLbk := Lib.hid (HLbk.out.below hb)
              clear hb
              obtain ⟨cb, co, hca, hcp⟩ := HL1b.out.at_ (by have := HLN.out; have := HE1b.out; omega)
              have yc := hcp 0 (by have := HLN.out; have := HE1b.out; omega)
              rw [Hy0.out, Nat.add_zero] at yc
              have hca' := hca
              subst hca'
              clear hca hcp
              have hnn : 0 < n1b := by have := HLN.out; have := HE1b.out; omega
              have hnz : (0 : Int) < (n1b : Int) := by omega
              have hyy : (y0 == y0) = true := by simp
              have hyn : (y0 != y0) = false := by simp
              have z_0_0 := HZ1.out.cell (i := 0) rfl
              have z_0_1 := HZ1.out.cell (i := 1) rfl
              have z_0_2 := HZ1.out.cell (i := 2) rfl
              have z_1_0 := HZ2.out.cell (i := 0) rfl
              have z_1_1 := HZ2.out.cell (i := 1) rfl
              have z_2_0 := HZ3.out.cell (i := 0) rfl
              have z_2_1 := HZ3.out.cell (i := 1) rfl
              have z_3_0 := HZ4.out.cell (i := 0) rfl
              have z_3_1 := HZ4.out.cell (i := 1) rfl
              have z_3_2 := HZ4.out.cell (i := 2) rfl
              try (go_wp2_with fail)
              clear z_0_0 z_0_1 z_0_2 z_1_0 z_1_1 z_2_0 z_2_1 z_3_0 z_3_1 z_3_2
              go_ret
              exact ⟨rfl, HB.out⟩
  | true =>
    obtain ⟨hx1, hx2⟩ := rc_right Hq9b.out
    rw [Hr9a.out] at hx1 hx2
    have HXB := Lib.hid hx1
    have HXE : Hid (expB ⟨P7a, Q7a, G7a⟩ r9a = true) := by unfold exB at hx1; simp only [Bool.and_eq_true] at hx1; exact hx1.2.2
    have HCL : Hid (0 < l7b.length) := by have h := Hq9b.out; unfold rcB asB at h; simp only [Bool.and_eq_true] at h; have := (cmsB_parts h.1.2.1).1; unfold Hid; omega
    have HQB : Hid ((⟨P7a, Q7a, G7a⟩ : GroupD).q ≤ 2000000000) := by have h := Hq9b.out; unfold rcB asB at h; simp only [Bool.and_eq_true] at h; exact (shG_prm h.1.1).2.1
    obtain ⟨y1, hy1⟩ : ∃ y, nth l7b 0 = y := ⟨_, rfl⟩
    have Hy1 := Lib.hid hy1
    rw [hy1] at hx2
    have HXV := Lib.hid hx2
    clear hx1 hx2 hy1
    have z_0_0 := HZ1.out.cell (i := 0) rfl
    have z_0_1 := HZ1.out.cell (i := 1) rfl
    have z_0_2 := HZ1.out.cell (i := 2) rfl
    have z_1_0 := HZ2.out.cell (i := 0) rfl
    have z_1_1 := HZ2.out.cell (i := 1) rfl
    have z_2_0 := HZ3.out.cell (i := 0) rfl
    have z_2_1 := HZ3.out.cell (i := 1) rfl
    have z_3_0 := HZ4.out.cell (i := 0) rfl
    have z_3_1 := HZ4.out.cell (i := 1) rfl
    have z_3_2 := HZ4.out.cell (i := 2) rfl
    try (go_wp2_with fail)
    clear z_0_0 z_0_1 z_0_2 z_1_0 z_1_1 z_2_0 z_2_1 z_3_0 z_3_1 z_3_2
    refine (impl_ExpOf ⟨P7a, Q7a, G7a⟩ G7a r9a _ (by have h0 : 0 ≤ r9a := (expB_bd HXE.out).1; have h1 : r9a ≤ Q7a - 1 := (expB_bd HXE.out).2; have h2 : Q7a ≤ 2000000000 := HQB.out; exact ⟨by omega, by omega⟩)).mono ?_
    rintro e u12 ⟨rfl, hb⟩
    rw [HXB.out, HXV.out]
    replace HB := Lib.hid (Below.next HB.out hb)
    replace HZ1 := Lib.hid (HZ1.out.below hb)
    replace HZ2 := Lib.hid (HZ2.out.below hb)
    replace HZ3 := Lib.hid (HZ3.out.below hb)
    replace HZ4 := Lib.hid (HZ4.out.below hb)
    replace HL1b := Lib.hid (HL1b.out.below hb)
    replace HL3a := Lib.hid (HL3a.out.below hb)
    replace HL3b := Lib.hid (HL3b.out.below hb)
    replace HL5a := Lib.hid (HL5a.out.below hb)
    replace HL5b := Lib.hid (HL5b.out.below hb)
    replace HL7b := Lib.hid (HL7b.out.below hb)
    replace HL7c := Lib.hid (HL7c.out.below hb)
    replace HL7d := Lib.hid (HL7d.out.below hb)
    clear hb
    obtain ⟨cb, co, hca, hcp⟩ := HL7b.out.at_ (by have := HCL.out; have := HE7b.out; omega)
    have yc := hcp 0 (by have := HCL.out; have := HE7b.out; omega)
    rw [Hy1.out, Nat.add_zero] at yc
    have hca' := hca
    subst hca'
    clear hca hcp
    have hnn : 0 < n7b := by have := HCL.out; have := HE7b.out; omega
    have hnz : (0 : Int) < (n7b : Int) := by omega
    have hyy : (y1 == y1) = true := by simp
    have hyn : (y1 != y1) = false := by simp
    cases q3 with
    | false =>
      have z_0_0 := HZ1.out.cell (i := 0) rfl
      have z_0_1 := HZ1.out.cell (i := 1) rfl
      have z_0_2 := HZ1.out.cell (i := 2) rfl
      have z_1_0 := HZ2.out.cell (i := 0) rfl
      have z_1_1 := HZ2.out.cell (i := 1) rfl
      have z_2_0 := HZ3.out.cell (i := 0) rfl
      have z_2_1 := HZ3.out.cell (i := 1) rfl
      have z_3_0 := HZ4.out.cell (i := 0) rfl
      have z_3_1 := HZ4.out.cell (i := 1) rfl
      have z_3_2 := HZ4.out.cell (i := 2) rfl
      try (go_wp2_with fail)
      clear z_0_0 z_0_1 z_0_2 z_1_0 z_1_1 z_2_0 z_2_1 z_3_0 z_3_1 z_3_2
      go_ret
      exact ⟨rfl, HB.out⟩
    | true =>
      obtain ⟨t1, t2, t3, t4, t5, t6, t7, t8, t9⟩ := deal_facts Hq3.out HD3.out
      have HVD := Lib.hid t1
      have HBN := Lib.hid t2
      have HNB := Lib.hid t3
      have HLN := Lib.hid t4
      have HSL := Lib.hid t5
      have HSE := Lib.hid t6
      have HCO := Lib.hid t7
      obtain ⟨y0, hy0⟩ : ∃ y, nth l1b 0 = y := ⟨_, rfl⟩
      have Hy0 := Lib.hid hy0
      rw [hy0] at t9
      have HRB := Lib.hid t8
      have HRV := Lib.hid t9
      have HSG : Hid (shG ⟨P1a, Q1a, G1a⟩ = true) := by unfold vdB at t1; rw [Bool.and_eq_true] at t1; exact t1.1
      clear t1 t2 t3 t4 t5 t6 t7 t8 t9 hy0
      have z_0_0 := HZ1.out.cell (i := 0) rfl
      have z_0_1 := HZ1.out.cell (i := 1) rfl
      have z_0_2 := HZ1.out.cell (i := 2) rfl
      have z_1_0 := HZ2.out.cell (i := 0) rfl
      have z_1_1 := HZ2.out.cell (i := 1) rfl
      have z_2_0 := HZ3.out.cell (i := 0) rfl
      have z_2_1 := HZ3.out.cell (i := 1) rfl
      have z_3_0 := HZ4.out.cell (i := 0) rfl
      have z_3_1 := HZ4.out.cell (i := 1) rfl
      have z_3_2 := HZ4.out.cell (i := 2) rfl
      try (go_wp2_with fail)
      clear z_0_0 z_0_1 z_0_2 z_1_0 z_1_1 z_2_0 z_2_1 z_3_0 z_3_1 z_3_2
      refine (impl_BadShares ⟨P1a, Q1a, G1a⟩ _ D3 _ (DlR.mk HL3a.out HL3b.out)).mono ?_
      rintro e u13 ⟨⟨v13, rfl, hs13⟩, hb⟩
      rw [HVD.out]
      rw [HBN.out] at hs13
      have HL13 := Lib.hid hs13
      obtain ⟨a13, n13, c13, rfl⟩ := hs13.shape
      have HE13 := Lib.hid hs13.len
      clear hs13
      have hz13 : n13 = 0 := by have h := HE13.out; simpa using h.symm
      subst hz13
      replace HB := Lib.hid (Below.next HB.out hb)
      replace HZ1 := Lib.hid (HZ1.out.below hb)
      replace HZ2 := Lib.hid (HZ2.out.below hb)
      replace HZ3 := Lib.hid (HZ3.out.below hb)
      replace HZ4 := Lib.hid (HZ4.out.below hb)
      replace HL1b := Lib.hid (HL1b.out.below hb)
      replace HL3a := Lib.hid (HL3a.out.below hb)
      replace HL3b := Lib.hid (HL3b.out.below hb)
      replace HL5a := Lib.hid (HL5a.out.below hb)
      replace HL5b := Lib.hid (HL5b.out.below hb)
      replace HL7b := Lib.hid (HL7b.out.below hb)
      replace HL7c := Lib.hid (HL7c.out.below hb)
      replace HL7d := Lib.hid (HL7d.out.below hb)
      clear hb
      have z_0_0 := HZ1.out.cell (i := 0) rfl
      have z_0_1 := HZ1.out.cell (i := 1) rfl
      have z_0_2 := HZ1.out.cell (i := 2) rfl
      have z_1_0 := HZ2.out.cell (i := 0) rfl
      have z_1_1 := HZ2.out.cell (i := 1) rfl
      have z_2_0 := HZ3.out.cell (i := 0) rfl
      have z_2_1 := HZ3.out.cell (i := 1) rfl
      have z_3_0 := HZ4.out.cell (i := 0) rfl
      have z_3_1 := HZ4.out.cell (i := 1) rfl
      have z_3_2 := HZ4.out.cell (i := 2) rfl
      try (go_wp2_with fail)
      clear z_0_0 z_0_1 z_0_2 z_1_0 z_1_1 z_2_0 z_2_1 z_3_0 z_3_1 z_3_2
      refine (impl_AreConsistent ⟨P1a, Q1a, G1a⟩ n1b _ D3.s _ HL3b.out HSG.out (by have := HLN.out; have := HE1b.out; omega) (by have := HLN.out; have := HE1b.out; have := HSL.out; omega) (by have := HSL.out; have := HNB.out; omega) HSE.out (by rw [← HE1b.out]; exact HCO.out)).mono ?_
      rintro e u14 ⟨rfl, hb⟩
      replace HB := Lib.hid (Below.next HB.out hb)
      replace HZ1 := Lib.hid (HZ1.out.below hb)
      replace HZ2 := Lib.hid (HZ2.out.below hb)
      replace HZ3 := Lib.hid (HZ3.out.below hb)
      replace HZ4 := Lib.hid (HZ4.out.below hb)
      replace HL1b := Lib.hid (HL1b.out.below hb)
      replace HL3a := Lib.hid (HL3a.out.below hb)
      replace HL3b := Lib.hid (HL3b.out.below hb)
      replace HL5a := Lib.hid (HL5a.out.below hb)
      replace HL5b := Lib.hid (HL5b.out.below hb)
      replace HL7b := Lib.hid (HL7b.out.below hb)
      replace HL7c := Lib.hid (HL7c.out.below hb)
      replace HL7d := Lib.hid (HL7d.out.below hb)
      replace HL13 := Lib.hid (HL13.out.below hb)
      clear hb
      have z_0_0 := HZ1.out.cell (i := 0) rfl
      have z_0_1 := HZ1.out.cell (i := 1) rfl
      have z_0_2 := HZ1.out.cell (i := 2) rfl
      have z_1_0 := HZ2.out.cell (i := 0) rfl
      have z_1_1 := HZ2.out.cell (i := 1) rfl
      have z_2_0 := HZ3.out.cell (i := 0) rfl
      have z_2_1 := HZ3.out.cell (i := 1) rfl
      have z_3_0 := HZ4.out.cell (i := 0) rfl
      have z_3_1 := HZ4.out.cell (i := 1) rfl
      have z_3_2 := HZ4.out.cell (i := 2) rfl
      try (go_wp2_with fail)
      clear z_0_0 z_0_1 z_0_2 z_1_0 z_1_1 z_2_0 z_2_1 z_3_0 z_3_1 z_3_2
      refine (impl_IsValidDealing ⟨P1a, Q1a, G1a⟩ _ D3 _ (DlR.mk HL3a.out HL3b.out)).mono ?_
      rintro e u15 ⟨rfl, hb⟩
      rw [HVD.out]
      replace HB := Lib.hid (Below.next HB.out hb)
      replace HZ1 := Lib.hid (HZ1.out.below hb)
      replace HZ2 := Lib.hid (HZ2.out.below hb)
      replace HZ3 := Lib.hid (HZ3.out.below hb)
      replace HZ4 := Lib.hid (HZ4.out.below hb)
      replace HL1b := Lib.hid (HL1b.out.below hb)
      replace HL3a := Lib.hid (HL3a.out.below hb)
      replace HL3b := Lib.hid (HL3b.out.below hb)
      replace HL5a := Lib.hid (HL5a.out.below hb)
      replace HL5b := Lib.hid (HL5b.out.below hb)
      replace HL7b := Lib.hid (HL7b.out.below hb)
      replace HL7c := Lib.hid (HL7c.out.below hb)
      replace HL7d := Lib.hid (HL7d.out.below hb)
      replace HL13 := Lib.hid (HL13.out.below hb)
      clear hb
      have z_0_0 := HZ1.out.cell (i := 0) rfl
      have z_0_1 := HZ1.out.cell (i := 1) rfl
      have z_0_2 := HZ1.out.cell (i := 2) rfl
      have z_1_0 := HZ2.out.cell (i := 0) rfl
      have z_1_1 := HZ2.out.cell (i := 1) rfl
      have z_2_0 := HZ3.out.cell (i := 0) rfl
      have z_2_1 := HZ3.out.cell (i := 1) rfl
      have z_3_0 := HZ4.out.cell (i := 0) rfl
      have z_3_1 := HZ4.out.cell (i := 1) rfl
      have z_3_2 := HZ4.out.cell (i := 2) rfl
      try (go_wp2_with fail)
      clear z_0_0 z_0_1 z_0_2 z_1_0 z_1_1 z_2_0 z_2_1 z_3_0 z_3_1 z_3_2
      obtain ⟨N, hN⟩ : ∃ N : Nat, (N : Int) = x1c := ⟨(x1c).toNat, by have := HNB.out; omega⟩
      have hN7 : N ≤ 7 := by have := HNB.out; omega
      have HN := Lib.hid hN
      go_loopg [26, 27] N (fun gk wv iv wr => ∃ k : Nat, k + gk = N ∧ iv = .int .i64 (gk : Int) ∧ Hid (OwnI wr u15.heap.size wv (dnW x1c k)) ∧ Below u15.heap.size u15 wr)
      case atStart => exact ⟨0, by omega, by rw [hN], OwnI.nil _ _, Below.refl _ _⟩
      case round =>
        clear hN
        obtain ⟨k, hkg, rfl, HO, hbr⟩ := hrel
        obtain ⟨oa, oc, rfl⟩ := HO.out.shape
        have HOL := Lib.hid (dnW_len x1c k)
        rw [HOL.out] at HO ⊢
        by_cases hlt : 0 < gk
        · have b1 : decide ((0 : Int) < (gk : Int)) = true := decide_eq_true (by omega)
          have b2 : (0 : Int) < (gk : Int) := by omega
          have ewk : IntKind.i64.wrap ((gk : Int) - 1) = ((gk - 1 : Nat) : Int) := by rw [show (gk : Int) - 1 = ((gk - 1 : Nat) : Int) by omega]; exact IntWalk.i64_in _ (by omega)
          have HGI : Hid (I64 (gk : Int)) := ⟨by omega, by omega⟩
          have HEQ : Hid (dnW x1c (k + 1) = dnW x1c k ++ [(gk : Int)]) := by unfold Hid; rw [show dnW x1c (k + 1) = dnW x1c k ++ [x1c - (k : Int)] from rfl, show x1c - (k : Int) = (gk : Int) by have := HN.out; omega]
          have HBR := Lib.hid hbr
          clear hbr
          go_wp2_with (at_builtin; refine wpList_append_intsN rfl _ _ rfl u15.heap.size _ _ (dnW x1c k) [(gk : Int)] rfl (HO.out.alloc _) rfl (Ints.lit1 _ HGI.out) (by rw [HOL.out]; simp; omega) (by have := HBR.out.size; simp; omega) (k + 1) (by rw [HOL.out]; rfl) ?_; intro a5 c5 w5 hown5 hgr5; have hb5 : Below u15.heap.size wr w5 := ((Below.refl u15.heap.size wr).alloc HBR.out.size _).trans ((HO.out.alloc _).grown hgr5 (by have := HBR.out.size; simp; omega)); have HO5 := Lib.hid hown5; have HB5 := Lib.hid (HBR.out.trans hb5); clear hown5 hgr5 hb5)
          go_roundg (gk - 1)
          case measure => omega
          case rel => exact ⟨k + 1, by omega, by first | rfl | go_num, by unfold Hid; rw [HEQ.out]; exact HO5.out, HB5.out⟩
        · obtain rfl : gk = 0 := by omega
          obtain rfl : N = k := by omega
          have HOW := Lib.hid (HO.out.ints)
          have hswh := HOW.out
          have HEwh := Lib.hid hswh.len
          have HLwh := Lib.hid hswh
          obtain ⟨wN, hwN⟩ : ∃ u, u = wr := ⟨_, rfl⟩
          rw [← hwN] at HLwh hbr ⊢
          clear hswh HO HOL HOW hwN hlt
          replace HB := Lib.hid (Below.next HB.out hbr)
          replace HZ1 := Lib.hid (HZ1.out.below hbr)
          replace HZ2 := Lib.hid (HZ2.out.below hbr)
          replace HZ3 := Lib.hid (HZ3.out.below hbr)
          replace HZ4 := Lib.hid (HZ4.out.below hbr)
          replace HL1b := Lib.hid (HL1b.out.below hbr)
          replace HL3a := Lib.hid (HL3a.out.below hbr)
          replace HL3b := Lib.hid (HL3b.out.below hbr)
          replace HL5a := Lib.hid (HL5a.out.below hbr)
          replace HL5b := Lib.hid (HL5b.out.below hbr)
          replace HL7b := Lib.hid (HL7b.out.below hbr)
          replace HL7c := Lib.hid (HL7c.out.below hbr)
          replace HL7d := Lib.hid (HL7d.out.below hbr)
          replace HL13 := Lib.hid (HL13.out.below hbr)
          clear hbr
          have z_0_0 := HZ1.out.cell (i := 0) rfl
          have z_0_1 := HZ1.out.cell (i := 1) rfl
          have z_0_2 := HZ1.out.cell (i := 2) rfl
          have z_1_0 := HZ2.out.cell (i := 0) rfl
          have z_1_1 := HZ2.out.cell (i := 1) rfl
          have z_2_0 := HZ3.out.cell (i := 0) rfl
          have z_2_1 := HZ3.out.cell (i := 1) rfl
          have z_3_0 := HZ4.out.cell (i := 0) rfl
          have z_3_1 := HZ4.out.cell (i := 1) rfl
          have z_3_2 := HZ4.out.cell (i := 2) rfl
          try (go_wp2_with fail)
          clear z_0_0 z_0_1 z_0_2 z_1_0 z_1_1 z_2_0 z_2_1 z_3_0 z_3_1 z_3_2
          go_loopg [28, 29] N (fun gk wv iv wr => ∃ k : Nat, k + gk = N ∧ iv = .int .i64 (gk : Int) ∧ Hid (OwnI wr wN.heap.size wv (dnS D3.s x1c k)) ∧ Below wN.heap.size wN wr)
          case atStart => exact ⟨0, by omega, by rw [HN.out], OwnI.nil _ _, Below.refl _ _⟩
          case round =>
            obtain ⟨k, hkg, rfl, HO, hbr⟩ := hrel
            obtain ⟨pa, pc, rfl⟩ := HO.out.shape
            have HOL := Lib.hid (dnS_len D3.s x1c k)
            rw [HOL.out] at HO ⊢
            by_cases hlt : 0 < gk
            · have b1 : decide ((0 : Int) < (gk : Int)) = true := decide_eq_true (by omega)
              have b2 : (0 : Int) < (gk : Int) := by omega
              have ewk : IntKind.i64.wrap ((gk : Int) - 1) = ((gk - 1 : Nat) : Int) := by rw [show (gk : Int) - 1 = ((gk - 1 : Nat) : Int) by omega]; exact IntWalk.i64_in _ (by omega)
              have hjn : gk - 1 < n3b := by have := HN.out; have := HSL.out; have := HE3b.out; omega
              obtain ⟨sb, so, hsa, hpc⟩ := HL3b.out.at_ (by omega)
              have ys := box_at (hpc _ hjn) hbr
              have hyI := nth_64 HL3b.out (gk - 1)
              have hsa' := hsa
              subst hsa'
              clear hsa hpc
              have HEQ : Hid (dnS D3.s x1c (k + 1) = dnS D3.s x1c k ++ [nth D3.s (gk - 1)]) := by unfold Hid; rw [show dnS D3.s x1c (k + 1) = dnS D3.s x1c k ++ [nth D3.s (x1c - (k : Int) - 1).toNat] from rfl, show (x1c - (k : Int) - 1).toNat = gk - 1 by have := HN.out; omega]
              obtain ⟨z, hz⟩ : ∃ y, nth D3.s (gk - 1) = y := ⟨_, rfl⟩
              rw [hz] at ys hyI HEQ
              have HGI := Lib.hid hyI
              clear hz hyI
              have b3 : (0 : Int) ≤ ((gk - 1 : Nat) : Int) := by omega
              have b4 : ((gk - 1 : Nat) : Int) < (n3b : Int) := by omega
              have d0 := box_at (HZ2.out.cell (i := 0) rfl) hbr
              have d1 := box_at (HZ2.out.cell (i := 1) rfl) hbr
              have HBR := Lib.hid hbr
              clear hbr
              go_wp2_with (at_builtin; refine wpList_append_intsN rfl _ _ rfl wN.heap.size _ _ (dnS D3.s x1c k) [z] rfl (HO.out.alloc _) rfl (Ints.lit1 _ HGI.out) (by rw [HOL.out]; simp; omega) (by have := HBR.out.size; simp; omega) (k + 1) (by rw [HOL.out]; rfl) ?_; intro a5 c5 w5 hown5 hgr5; have hb5 : Below wN.heap.size wr w5 := ((Below.refl wN.heap.size wr).alloc HBR.out.size _).trans ((HO.out.alloc _).grown hgr5 (by have := HBR.out.size; simp; omega)); have HO5 := Lib.hid hown5; have HB5 := Lib.hid (HBR.out.trans hb5); clear hown5 hgr5 hb5)
              go_roundg (gk - 1)
              case measure => omega
              case rel => exact ⟨k + 1, by omega, by first | rfl | go_num, by unfold Hid; rw [HEQ.out]; exact HO5.out, HB5.out⟩
            · obtain rfl : gk = 0 := by omega
              obtain rfl : N = k := by omega
              have HOW := Lib.hid (HO.out.ints)
              have hswh := HOW.out
              have HEbk := Lib.hid hswh.len
              have HLbk := Lib.hid hswh
              obtain ⟨wM, hwM⟩ : ∃ u, u = wr := ⟨_, rfl⟩
              rw [← hwM] at HLbk hbr ⊢
              clear hswh HO HOL HOW hwM hlt
              have hNn : (x1c).toNat = N := by have := HN.out; omega
              rw [hNn] at HRB HRV
              clear hNn
              replace HB := Lib.hid (Below.next HB.out hbr)
              replace HZ1 := Lib.hid (HZ1.out.below hbr)
              replace HZ2 := Lib.hid (HZ2.out.below hbr)
              replace HZ3 := Lib.hid (HZ3.out.below hbr)
              replace HZ4 := Lib.hid (HZ4.out.below hbr)
              replace HL1b := Lib.hid (HL1b.out.below hbr)
              replace HL3a := Lib.hid (HL3a.out.below hbr)
              replace HL3b := Lib.hid (HL3b.out.below hbr)
              replace HL5a := Lib.hid (HL5a.out.below hbr)
              replace HL5b := Lib.hid (HL5b.out.below hbr)
              replace HL7b := Lib.hid (HL7b.out.below hbr)
              replace HL7c := Lib.hid (HL7c.out.below hbr)
              replace HL7d := Lib.hid (HL7d.out.below hbr)
              replace HL13 := Lib.hid (HL13.out.below hbr)
              replace HLwh := Lib.hid (HLwh.out.below hbr)
              clear hbr
              have z_0_0 := HZ1.out.cell (i := 0) rfl
              have z_0_1 := HZ1.out.cell (i := 1) rfl
              have z_0_2 := HZ1.out.cell (i := 2) rfl
              have z_1_0 := HZ2.out.cell (i := 0) rfl
              have z_1_1 := HZ2.out.cell (i := 1) rfl
              have z_2_0 := HZ3.out.cell (i := 0) rfl
              have z_2_1 := HZ3.out.cell (i := 1) rfl
              have z_3_0 := HZ4.out.cell (i := 0) rfl
              have z_3_1 := HZ4.out.cell (i := 1) rfl
              have z_3_2 := HZ4.out.cell (i := 2) rfl
              try (go_wp2_with fail)
              clear z_0_0 z_0_1 z_0_2 z_1_0 z_1_1 z_2_0 z_2_1 z_3_0 z_3_1 z_3_2
              refine (impl_Reconstruct ⟨P1a, Q1a, G1a⟩ _ D3.c _ (dnW x1c N) _ (dnS D3.s x1c N) _ HL3a.out HLwh.out HLbk.out).mono ?_
              rintro e u16 ⟨rfl, hb⟩
              rw [HRB.out, HRV.out]
              replace HB := Lib.hid (Below.next HB.out hb)
              replace HZ1 := Lib.hid (HZ1.out.below hb)
              replace HZ2 := Lib.hid (HZ2.out.below hb)
              replace HZ3 := Lib.hid (HZ3.out.below hb)
              replace HZ4 := Lib.hid (HZ4.out.below hb)
              replace HL1b := Lib.hid (HL1b.out.below hb)
              replace HL3a := Lib.hid (HL3a.out.below hb)
              replace HL3b := Lib.hid (HL3b.out.below hb)
              replace HL5a := Lib.hid (HL5a.out.below hb)
              replace HL5b := Lib.hid (HL5b.out.below hb)
              replace HL7b := Lib.hid (HL7b.out.below hb)
              replace HL7c := Lib.hid (HL7c.out.below hb)
              replace HL7d := Lib.hid (HL7d.out.below hb)
              replace HL13 := Lib.hid (HL13.out.below hb)
              replace HLwh := Lib.hid (HLwh.out.below hb)
              replace HLbk := Lib.hid (HLbk.out.below hb)
              clear hb
              obtain ⟨cb, co, hca, hcp⟩ := HL1b.out.at_ (by have := HLN.out; have := HE1b.out; omega)
              have yc := hcp 0 (by have := HLN.out; have := HE1b.out; omega)
              rw [Hy0.out, Nat.add_zero] at yc
              have hca' := hca
              subst hca'
              clear hca hcp
              have hnn : 0 < n1b := by have := HLN.out; have := HE1b.out; omega
              have hnz : (0 : Int) < (n1b : Int) := by omega
              have hyy : (y0 == y0) = true := by simp
              have hyn : (y0 != y0) = false := by simp
              have z_0_0 := HZ1.out.cell (i := 0) rfl
              have z_0_1 := HZ1.out.cell (i := 1) rfl
              have z_0_2 := HZ1.out.cell (i := 2) rfl
              have z_1_0 := HZ2.out.cell (i := 0) rfl
              have z_1_1 := HZ2.out.cell (i := 1) rfl
              have z_2_0 := HZ3.out.cell (i := 0) rfl
              have z_2_1 := HZ3.out.cell (i := 1) rfl
              have z_3_0 := HZ4.out.cell (i := 0) rfl
              have z_3_1 := HZ4.out.cell (i := 1) rfl
              have z_3_2 := HZ4.out.cell (i := 2) rfl
              try (go_wp2_with fail)
              clear z_0_0 z_0_1 z_0_2 z_1_0 z_1_1 z_2_0 z_2_1 z_3_0 z_3_1 z_3_2
              go_ret
              exact ⟨rfl, HB.out⟩
end Go.Proofs.Ytacpnphfopmofaa
/- From a walk of a law to its row: whatever the arguments, the law returns true and nothing that was there has turned. -/







namespace Go.Proofs.Ytacpnphfopmofaa
open Go.ChangeShapes Go.WideShapes Go.ChangeAt Go.RowKit

theorem ownKnob_none : ownKnob Try.prog.godebug = none := by kernel_rfl
theorem laid_out : laidOutB Try.prog = true := by kernel_rfl

section
variable {H : Type} {enc : TypeId × Value → H} {P : Program}

theorem trodAll_below (hl : laidOutB P = true) {W W' : World} (hb : Below W.heap.size W W') :
    ∀ (ts : List TypeId) (vs : List Value) (ds : List (DataW H)) (ps : List MemPlace), (∀ t ∈ ts, P.readableRec t = true ∧ t < P.types.size) →
      DataW.TrodAll enc P W 0 (fun _ => true) true ts vs ds ps → (∀ x ∈ ps, x.block < W.heap.size) →
      ∀ sp : Nat → Bool, (∀ p ∈ ps, sp p.block = true) → DataW.TrodAll enc P W' 0 sp true ts vs ds ps
  | [], vs, ds, ps, _, h, _, sp, _ => by
    obtain ⟨rfl, rfl, rfl⟩ := trodAll_nil h
    exact trodAll_mk0
  | t :: ts, vs, ds, ps, ht, h, hlt, sp, hsp => by
    obtain ⟨v0, vs0, d0, ds0, p0, q0, rfl, rfl, rfl, h0, r0⟩ := trodAll_cons h
    refine trodAll_cons_mk ?_ (trodAll_below hl hb ts vs0 ds0 q0 (fun t' h' => ht t' (by simp [h'])) r0 (fun x hx => hlt x (by simp [hx])) sp (fun x hx => hsp x (by simp [hx])))
    exact WideElems.Trod_stays hl (ht t (by simp)).1 (ht t (by simp)).2 h0 (fun x hx => hb.same (hlt x (by simp [hx]))) (fun x hx => hsp x (by simp [hx]))

theorem post_law {f : Func} {s : ChangeSpec} {tb : TypeId} {W W' : World} {args : Array Value} {ds gs : List (DataW H)} {before : List MemPlace}
    (hl : laidOutB P = true) (hpB : f.params.toList.all (fun t => P.readableRec t && decide (t < P.types.size)) = true) (hrt : f.resultTypes = #[tb]) (htb : P.underlying tb = some .bool)
    (hvars : s.vars = []) (hW : DataW.Whole enc P f.params.toList s.vars false W args.toList ds gs before)
    (hfn : s.fn H ds = { results := [.lit (.bool true)], args := ds }) (hb : Below W.heap.size W W') :
    s.post enc P f false true false false W args (.bool true) W' := by
  have hp : ∀ t ∈ f.params.toList, P.readableRec t = true ∧ t < P.types.size := fun t ht => by simpa using List.all_eq_true.1 hpB t ht
  have hlt : ∀ x ∈ before, x.block < W.heap.size := fun x hx => by simpa using hW.lt x hx
  have hW' := hW
  obtain ⟨p, q, hA0, hV, rfl, hfz, hnd⟩ := hW
  rw [hvars] at hV
  obtain ⟨rfl, rfl⟩ := trodVars_none hV
  have e : s.fn H (ds ++ []) = { results := [.lit (.bool true)], args := ds } := by rw [List.append_nil]; exact hfn
  have hargs := trodAll_below (enc := enc) hl hb f.params.toList args.toList ds p hp hA0 (fun x hx => hlt x (by simp [hx]))
  refine ⟨ds, [], p ++ [], [], p, [], hW', ?_, ?_, ?_, ?_, fun h => by cases h⟩
  · rw [e, hrt]
    exact trodAll_cons_mk (shut_bool htb true) trodAll_mk0
  · rw [e]
    exact hargs _ (fun x hx => by simpa using hlt x (by simp [hx]))
  · rw [e, hvars]
    rfl
  · exact hb.frame _
end


section
variable {H : Type} {enc : TypeId × Value → H} {P : Program} {w : World} {base : Nat} {spare : Nat → Bool} {held : Bool}
open Go.Joins Go.Deep
end

section
variable {H : Type} {enc : TypeId × Value → H} {w : World} {base : Nat} {spare : Nat → Bool} {held : Bool}
theorem addr_of_cell {w : World} {a : Addr} {v : Value} (h : w.cell? a = some v) : a = ⟨a.block, a.off, none⟩ := by
  obtain ⟨b, o, s⟩ := a
  cases s with
  | none => rfl
  | some x =>
    unfold World.cell? at h
    split at h <;> simp at h
end
end Go.Proofs.Ytacpnphfopmofaa
/- Arguments that are slices of structs. -/


namespace Go.Proofs.Ytacpnphfopmofaa
open Go.ChangeShapes Go.WideShapes Go.ChangeAt Go.RowKit
set_option linter.unusedVariables false

end Go.Proofs.Ytacpnphfopmofaa
/- Arguments of type laws.Proof (printed by genarg.py). -/


namespace Go.Proofs.Ytacpnphfopmofaa
open Go.ChangeShapes Go.WideShapes Go.ChangeAt Go.RowKit
set_option linter.unusedVariables false
set_option linter.unusedSimpArgs false

section
variable {H : Type} {enc : TypeId × Value → H} {w : World} {base : Nat} {spare : Nat → Bool} {held : Bool}
open Go.Joins Go.Deep
end
end Go.Proofs.Ytacpnphfopmofaa
/- Arguments of type laws.Head (printed by genarg.py). -/



namespace Go.Proofs.Ytacpnphfopmofaa
open Go.ChangeShapes Go.WideShapes Go.ChangeAt Go.RowKit
set_option linter.unusedVariables false
set_option linter.unusedSimpArgs false

section
variable {H : Type} {enc : TypeId × Value → H} {w : World} {base : Nat} {spare : Nat → Bool} {held : Bool}
open Go.Joins Go.Deep
end
end Go.Proofs.Ytacpnphfopmofaa
/- Arguments of type laws.Entry (printed by genarg.py). -/



namespace Go.Proofs.Ytacpnphfopmofaa
open Go.ChangeShapes Go.WideShapes Go.ChangeAt Go.RowKit
set_option linter.unusedVariables false
set_option linter.unusedSimpArgs false

section
variable {H : Type} {enc : TypeId × Value → H} {w : World} {base : Nat} {spare : Nat → Bool} {held : Bool}
open Go.Joins Go.Deep
end
end Go.Proofs.Ytacpnphfopmofaa
/- Arguments of type laws.Group. -/


namespace Go.Proofs.Ytacpnphfopmofaa
open Go.ChangeShapes Go.WideShapes Go.ChangeAt Go.RowKit
set_option linter.unusedVariables false

section
variable {H : Type} {enc : TypeId × Value → H} {w : World} {base : Nat} {spare : Nat → Bool} {held : Bool}
open Go.Joins Go.Deep
end
end Go.Proofs.Ytacpnphfopmofaa
