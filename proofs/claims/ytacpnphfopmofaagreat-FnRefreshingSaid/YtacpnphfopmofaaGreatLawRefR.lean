/- The walk of FnRefreshing (printed by gen_lawref.py). -/
import Derived.Test.YtacpnphfopmofaaGreatDrZ5R
import Derived.Test.YtacpnphfopmofaaGreatFindDQR
import Derived.Test.YtacpnphfopmofaaGreatRf6R
import Derived.Test.YtacpnphfopmofaaGreatSh2R
namespace Go.Proofs.YtacpnphfopmofaaGreat
open Go.RowKit
set_option linter.unusedSimpArgs false
set_option linter.unusedVariables false

theorem rf_facts {gr : GroupD} {k : DealingD} {l : List DealingD} {D : DealingD} (h : rkB gr k l = true) (hD : rfR gr k l = D) :
    vdB gr k = true ∧ vdB gr D = true ∧ (decide ((badE gr D).length = 0) = decide ((badE gr k).length = 0)) ∧ nth D.c 0 = nth k.c 0 ∧ 0 < D.c.length ∧ 0 < k.c.length := by
  obtain ⟨h1, h2, h3, h4, h5, h6⟩ := rf_right h
  have e : rfD gr k l = D := by unfold rfR at hD; rwa [if_pos h] at hD
  rw [e] at h2 h3 h4 h5
  refine ⟨h1, h2, ?_, h4, h5, h6⟩
  have e1 : (badE gr D).length = 0 ↔ (badE gr k).length = 0 := by rw [List.length_eq_zero_iff, List.length_eq_zero_iff]; exact h3.symm
  exact decide_eq_decide.2 e1
theorem mk_facts {gr : GroupD} {k : DealingD} {i : Int} {l : List DealingD} {D : DealingD} (h : mkB gr k i l = true) (hD : mkR gr k i l = D) (hi : i ≤ k.s.length) (hn : k.c.length < k.s.length) :
    1 ≤ i ∧ vdB gr k = true ∧ (decide ((badE gr k).length = 0) = true → rmB gr D i 0 = true ∧ rmR gr D i 0 = nth k.s (i - 1).toNat) := by
  have e : mkD gr k l = D := by unfold mkR at hD; rwa [if_pos h] at hD
  obtain ⟨h1, h2⟩ := mask_right h hi hn
  rw [e] at h2
  exact ⟨(mkB_parts h).2.1.1, h1, fun h3 => h2 (List.eq_nil_of_length_eq_zero (of_decide_eq_true h3))⟩
set_option maxRecDepth 100000 in
set_option maxHeartbeats 8000000 in
theorem law_Refreshing (va vb : Value) (w : World) (h1 : Bytes w va) (h2 : Bytes w vb) :
    Calls Tryz.prog 3 #[va, vb] w fun e w' => e = .returned (.bool true) ∧ Below w.heap.size w w' := by
  obtain ⟨a, m, c, rfl, k1, k2, hv⟩ := h1
  obtain ⟨a', m', c', rfl, k3, k4, hv'⟩ := h2
  have H1 : Hid (Bytes w (.slice a m c)) := ⟨a, m, c, rfl, k1, k2, hv⟩
  have H2 : Hid (Bytes w (.slice a' m' c')) := ⟨a', m', c', rfl, k3, k4, hv'⟩
  clear hv hv'
  unfold maxLen at k2 k4
  by_cases hbig : (1048576 : Int) < wrap64 ((m : Int) + (m' : Int))
  · go_enter Tryz.func3, Tryz.ntmps3
    go_wp2_with fail
    go_ret
    exact ⟨rfl, Below.refl _ _⟩
  have HB : Hid (Below w.heap.size w w) := Below.refl _ _
  go_enter Tryz.func3, Tryz.ntmps3
  go_wp2_with fail
  try (go_wp2_with fail)
  refine (spec_DrawRefreshKey _ _ (H1.out.below HB.out)).mono ?_
  rintro e u1 ⟨⟨P1a, Q1a, G1a, v1ba, v1bb, l1ba, l1bb, v1c, l1c, rfl, hgr1a, ⟨hs1ba, hl1ba⟩, ⟨hs1bb, hl1bb⟩, ⟨hs1c, hl1c⟩⟩, hb⟩
  clear hgr1a
  have HL1ba := Lib.hid hs1ba
  obtain ⟨a1ba, n1ba, c1ba, rfl⟩ := hs1ba.shape
  have HE1ba := Lib.hid hs1ba.len
  clear hs1ba
  have HL1bb := Lib.hid hs1bb
  obtain ⟨a1bb, n1bb, c1bb, rfl⟩ := hs1bb.shape
  have HE1bb := Lib.hid hs1bb.len
  clear hs1bb
  have HL1c := Lib.hid hs1c
  obtain ⟨a1c, n1c, c1c, rfl⟩ := hs1c.shape
  have HE1c := Lib.hid hs1c.len
  clear hs1c
  replace HB := Lib.hid (Below.next HB.out hb)
  clear hb
  obtain ⟨V2, hV⟩ : ∃ V, V = (u1.alloc (.cells #[.int .i64 P1a, .int .i64 Q1a, .int .i64 G1a] 24)).alloc (.cells #[.slice a1ba n1ba c1ba, .slice a1bb n1bb c1bb] 27) := ⟨_, rfl⟩
  have hbV : Below u1.heap.size u1 V2 := by rw [hV]; (repeat (first | exact Below.refl _ _ | assumption | refine Below.drew ?_ | refine Below.alloc ?_ (by first | (simp; done) | (simp; omega)) _ | refine Below.setCell ?_ (by first | (simp; done) | (simp; omega)) _))
  have HZ1 : Hid (BoxN V2 u1.heap.size 24 [.int .i64 P1a, .int .i64 Q1a, .int .i64 G1a]) := by unfold Hid; rw [hV]; have h := ((BoxN.new u1 [.int .i64 P1a, .int .i64 Q1a, .int .i64 G1a] 24).alloc (.cells #[.slice a1ba n1ba c1ba, .slice a1bb n1bb c1bb] 27)); simpa using h
  have HZ2 : Hid (BoxN V2 (u1.heap.size + 1) 27 [.slice a1ba n1ba c1ba, .slice a1bb n1bb c1bb]) := by unfold Hid; rw [hV]; have h := (BoxN.new (u1.alloc (.cells #[.int .i64 P1a, .int .i64 Q1a, .int .i64 G1a] 24)) [.slice a1ba n1ba c1ba, .slice a1bb n1bb c1bb] 27); simpa using h
  try (go_wp2_with fail)
  rw [← hV]
  clear hV
  replace HB := Lib.hid (Below.next HB.out hbV)
  replace HL1ba := Lib.hid (HL1ba.out.below hbV)
  replace HL1bb := Lib.hid (HL1bb.out.below hbV)
  replace HL1c := Lib.hid (HL1c.out.below hbV)
  clear hbV
  have z_0_0 := HZ1.out.cell (i := 0) rfl
  have z_0_1 := HZ1.out.cell (i := 1) rfl
  have z_0_2 := HZ1.out.cell (i := 2) rfl
  have z_1_0 := HZ2.out.cell (i := 0) rfl
  have z_1_1 := HZ2.out.cell (i := 1) rfl
  try (go_wp2_with fail)
  clear z_0_0 z_0_1 z_0_2 z_1_0 z_1_1
  refine (impl_RefreshKey ⟨P1a, Q1a, G1a⟩ _ _ ⟨l1ba, l1bb⟩ l1c _ (DlR.mk HL1ba.out HL1bb.out) HL1c.out (by omega)).mono ?_
  rintro e u3 ⟨⟨v3a, v3b, v3l, rfl, hs3a, hs3b, hs3l⟩, hb⟩
  obtain ⟨D3, hD3⟩ : ∃ d, rfR ⟨P1a, Q1a, G1a⟩ ⟨l1ba, l1bb⟩ l1c = d := ⟨_, rfl⟩
  have HD3 := Lib.hid hD3
  rw [hD3] at hs3a hs3b
  clear hD3
  have HL3a := Lib.hid hs3a
  obtain ⟨a3a, n3a, c3a, rfl⟩ := hs3a.shape
  have HE3a := Lib.hid hs3a.len
  clear hs3a
  have HL3b := Lib.hid hs3b
  obtain ⟨a3b, n3b, c3b, rfl⟩ := hs3b.shape
  have HE3b := Lib.hid hs3b.len
  clear hs3b
  have HL3l := Lib.hid hs3l
  obtain ⟨a3l, n3l, c3l, rfl⟩ := hs3l.shape
  have HE3l := Lib.hid hs3l.len
  clear hs3l
  obtain ⟨q3, hq3⟩ : ∃ r, rkB ⟨P1a, Q1a, G1a⟩ ⟨l1ba, l1bb⟩ l1c = r := ⟨_, rfl⟩
  have Hq3 := Lib.hid hq3
  rw [hq3]
  clear hq3
  replace HB := Lib.hid (Below.next HB.out hb)
  replace HZ1 := Lib.hid (HZ1.out.below hb)
  replace HZ2 := Lib.hid (HZ2.out.below hb)
  replace HL1ba := Lib.hid (HL1ba.out.below hb)
  replace HL1bb := Lib.hid (HL1bb.out.below hb)
  replace HL1c := Lib.hid (HL1c.out.below hb)
  clear hb
  have z_0_0 := HZ1.out.cell (i := 0) rfl
  have z_0_1 := HZ1.out.cell (i := 1) rfl
  have z_0_2 := HZ1.out.cell (i := 2) rfl
  have z_1_0 := HZ2.out.cell (i := 0) rfl
  have z_1_1 := HZ2.out.cell (i := 1) rfl
  have lt_HZ1 := HZ1.out.lt
  have lt_HZ2 := HZ2.out.lt
  obtain ⟨V4, hV⟩ : ∃ V, V = u3.alloc (.cells #[.slice a3a n3a c3a, .slice a3b n3b c3b] 27) := ⟨_, rfl⟩
  have hbV : Below u3.heap.size u3 V4 := by rw [hV]; (repeat (first | exact Below.refl _ _ | assumption | refine Below.drew ?_ | refine Below.alloc ?_ (by first | (simp; done) | (simp; omega)) _ | refine Below.setCell ?_ (by first | (simp; done) | (simp; omega)) _))
  have HZ3 : Hid (BoxN V4 u3.heap.size 27 [.slice a3a n3a c3a, .slice a3b n3b c3b]) := by unfold Hid; rw [hV]; have h := (BoxN.new u3 [.slice a3a n3a c3a, .slice a3b n3b c3b] 27); simpa using h
  try (go_wp2_with fail)
  rw [← hV]
  clear hV
  clear lt_HZ1
  clear lt_HZ2
  clear z_0_0 z_0_1 z_0_2 z_1_0 z_1_1
  replace HB := Lib.hid (Below.next HB.out hbV)
  replace HZ1 := Lib.hid (HZ1.out.below hbV)
  replace HZ2 := Lib.hid (HZ2.out.below hbV)
  replace HL1ba := Lib.hid (HL1ba.out.below hbV)
  replace HL1bb := Lib.hid (HL1bb.out.below hbV)
  replace HL1c := Lib.hid (HL1c.out.below hbV)
  replace HL3a := Lib.hid (HL3a.out.below hbV)
  replace HL3b := Lib.hid (HL3b.out.below hbV)
  replace HL3l := Lib.hid (HL3l.out.below hbV)
  clear hbV
  have z_0_0 := HZ1.out.cell (i := 0) rfl
  have z_0_1 := HZ1.out.cell (i := 1) rfl
  have z_0_2 := HZ1.out.cell (i := 2) rfl
  have z_1_0 := HZ2.out.cell (i := 0) rfl
  have z_1_1 := HZ2.out.cell (i := 1) rfl
  have z_2_0 := HZ3.out.cell (i := 0) rfl
  have z_2_1 := HZ3.out.cell (i := 1) rfl
  try (go_wp2_with fail)
  clear z_0_0 z_0_1 z_0_2 z_1_0 z_1_1 z_2_0 z_2_1
  refine (spec_RefreshKey ⟨P1a, Q1a, G1a⟩ _ _ ⟨l1ba, l1bb⟩ l1c _ (DlR.mk HL1ba.out HL1bb.out) HL1c.out (by omega)).mono ?_
  rintro e u5 ⟨⟨v5a, v5b, v5l, rfl, hs5a, hs5b, hs5l⟩, hb⟩
  rw [HD3.out] at hs5a hs5b
  have HL5a := Lib.hid hs5a
  obtain ⟨a5a, n5a, c5a, rfl⟩ := hs5a.shape
  have HE5a := Lib.hid hs5a.len
  clear hs5a
  have HL5b := Lib.hid hs5b
  obtain ⟨a5b, n5b, c5b, rfl⟩ := hs5b.shape
  have HE5b := Lib.hid hs5b.len
  clear hs5b
  have HL5l := Lib.hid hs5l
  obtain ⟨a5l, n5l, c5l, rfl⟩ := hs5l.shape
  have HE5l := Lib.hid hs5l.len
  clear hs5l
  rw [Hq3.out]
  replace HB := Lib.hid (Below.next HB.out hb)
  replace HZ1 := Lib.hid (HZ1.out.below hb)
  replace HZ2 := Lib.hid (HZ2.out.below hb)
  replace HZ3 := Lib.hid (HZ3.out.below hb)
  replace HL1ba := Lib.hid (HL1ba.out.below hb)
  replace HL1bb := Lib.hid (HL1bb.out.below hb)
  replace HL1c := Lib.hid (HL1c.out.below hb)
  replace HL3a := Lib.hid (HL3a.out.below hb)
  replace HL3b := Lib.hid (HL3b.out.below hb)
  replace HL3l := Lib.hid (HL3l.out.below hb)
  clear hb
  have z_0_0 := HZ1.out.cell (i := 0) rfl
  have z_0_1 := HZ1.out.cell (i := 1) rfl
  have z_0_2 := HZ1.out.cell (i := 2) rfl
  have z_1_0 := HZ2.out.cell (i := 0) rfl
  have z_1_1 := HZ2.out.cell (i := 1) rfl
  have z_2_0 := HZ3.out.cell (i := 0) rfl
  have z_2_1 := HZ3.out.cell (i := 1) rfl
  have lt_HZ1 := HZ1.out.lt
  have lt_HZ2 := HZ2.out.lt
  have lt_HZ3 := HZ3.out.lt
  obtain ⟨V6, hV⟩ : ∃ V, V = u5.alloc (.cells #[.slice a5a n5a c5a, .slice a5b n5b c5b] 27) := ⟨_, rfl⟩
  have hbV : Below u5.heap.size u5 V6 := by rw [hV]; (repeat (first | exact Below.refl _ _ | assumption | refine Below.drew ?_ | refine Below.alloc ?_ (by first | (simp; done) | (simp; omega)) _ | refine Below.setCell ?_ (by first | (simp; done) | (simp; omega)) _))
  have HZ4 : Hid (BoxN V6 u5.heap.size 27 [.slice a5a n5a c5a, .slice a5b n5b c5b]) := by unfold Hid; rw [hV]; have h := (BoxN.new u5 [.slice a5a n5a c5a, .slice a5b n5b c5b] 27); simpa using h
  try (go_wp2_with fail)
  rw [← hV]
  clear hV
  clear lt_HZ1
  clear lt_HZ2
  clear lt_HZ3
  clear z_0_0 z_0_1 z_0_2 z_1_0 z_1_1 z_2_0 z_2_1
  replace HB := Lib.hid (Below.next HB.out hbV)
  replace HZ1 := Lib.hid (HZ1.out.below hbV)
  replace HZ2 := Lib.hid (HZ2.out.below hbV)
  replace HZ3 := Lib.hid (HZ3.out.below hbV)
  replace HL1ba := Lib.hid (HL1ba.out.below hbV)
  replace HL1bb := Lib.hid (HL1bb.out.below hbV)
  replace HL1c := Lib.hid (HL1c.out.below hbV)
  replace HL3a := Lib.hid (HL3a.out.below hbV)
  replace HL3b := Lib.hid (HL3b.out.below hbV)
  replace HL3l := Lib.hid (HL3l.out.below hbV)
  replace HL5a := Lib.hid (HL5a.out.below hbV)
  replace HL5b := Lib.hid (HL5b.out.below hbV)
  replace HL5l := Lib.hid (HL5l.out.below hbV)
  clear hbV
  have z_0_0 := HZ1.out.cell (i := 0) rfl
  have z_0_1 := HZ1.out.cell (i := 1) rfl
  have z_0_2 := HZ1.out.cell (i := 2) rfl
  have z_1_0 := HZ2.out.cell (i := 0) rfl
  have z_1_1 := HZ2.out.cell (i := 1) rfl
  have z_2_0 := HZ3.out.cell (i := 0) rfl
  have z_2_1 := HZ3.out.cell (i := 1) rfl
  have z_3_0 := HZ4.out.cell (i := 0) rfl
  have z_3_1 := HZ4.out.cell (i := 1) rfl
  try (go_wp2_with fail)
  clear z_0_0 z_0_1 z_0_2 z_1_0 z_1_1 z_2_0 z_2_1 z_3_0 z_3_1
  refine (spec_DrawMaskedShares _ _ (H2.out.below HB.out)).mono ?_
  rintro e u7 ⟨⟨P7a, Q7a, G7a, v7ba, v7bb, l7ba, l7bb, x7c, v7d, l7d, rfl, hgr7a, ⟨hs7ba, hl7ba⟩, ⟨hs7bb, hl7bb⟩, ⟨x7cl, x7cu⟩, ⟨hs7d, hl7d⟩⟩, hb⟩
  clear hgr7a
  have HL7ba := Lib.hid hs7ba
  obtain ⟨a7ba, n7ba, c7ba, rfl⟩ := hs7ba.shape
  have HE7ba := Lib.hid hs7ba.len
  clear hs7ba
  have HL7bb := Lib.hid hs7bb
  obtain ⟨a7bb, n7bb, c7bb, rfl⟩ := hs7bb.shape
  have HE7bb := Lib.hid hs7bb.len
  clear hs7bb
  have HL7d := Lib.hid hs7d
  obtain ⟨a7d, n7d, c7d, rfl⟩ := hs7d.shape
  have HE7d := Lib.hid hs7d.len
  clear hs7d
  replace HB := Lib.hid (Below.next HB.out hb)
  replace HZ1 := Lib.hid (HZ1.out.below hb)
  replace HZ2 := Lib.hid (HZ2.out.below hb)
  replace HZ3 := Lib.hid (HZ3.out.below hb)
  replace HZ4 := Lib.hid (HZ4.out.below hb)
  replace HL1ba := Lib.hid (HL1ba.out.below hb)
  replace HL1bb := Lib.hid (HL1bb.out.below hb)
  replace HL1c := Lib.hid (HL1c.out.below hb)
  replace HL3a := Lib.hid (HL3a.out.below hb)
  replace HL3b := Lib.hid (HL3b.out.below hb)
  replace HL3l := Lib.hid (HL3l.out.below hb)
  replace HL5a := Lib.hid (HL5a.out.below hb)
  replace HL5b := Lib.hid (HL5b.out.below hb)
  replace HL5l := Lib.hid (HL5l.out.below hb)
  clear hb
  have z_0_0 := HZ1.out.cell (i := 0) rfl
  have z_0_1 := HZ1.out.cell (i := 1) rfl
  have z_0_2 := HZ1.out.cell (i := 2) rfl
  have z_1_0 := HZ2.out.cell (i := 0) rfl
  have z_1_1 := HZ2.out.cell (i := 1) rfl
  have z_2_0 := HZ3.out.cell (i := 0) rfl
  have z_2_1 := HZ3.out.cell (i := 1) rfl
  have z_3_0 := HZ4.out.cell (i := 0) rfl
  have z_3_1 := HZ4.out.cell (i := 1) rfl
  have lt_HZ1 := HZ1.out.lt
  have lt_HZ2 := HZ2.out.lt
  have lt_HZ3 := HZ3.out.lt
  have lt_HZ4 := HZ4.out.lt
  obtain ⟨V8, hV⟩ : ∃ V, V = (u7.alloc (.cells #[.int .i64 P7a, .int .i64 Q7a, .int .i64 G7a] 24)).alloc (.cells #[.slice a7ba n7ba c7ba, .slice a7bb n7bb c7bb] 27) := ⟨_, rfl⟩
  have hbV : Below u7.heap.size u7 V8 := by rw [hV]; (repeat (first | exact Below.refl _ _ | assumption | refine Below.drew ?_ | refine Below.alloc ?_ (by first | (simp; done) | (simp; omega)) _ | refine Below.setCell ?_ (by first | (simp; done) | (simp; omega)) _))
  have HZ5 : Hid (BoxN V8 u7.heap.size 24 [.int .i64 P7a, .int .i64 Q7a, .int .i64 G7a]) := by unfold Hid; rw [hV]; have h := ((BoxN.new u7 [.int .i64 P7a, .int .i64 Q7a, .int .i64 G7a] 24).alloc (.cells #[.slice a7ba n7ba c7ba, .slice a7bb n7bb c7bb] 27)); simpa using h
  have HZ6 : Hid (BoxN V8 (u7.heap.size + 1) 27 [.slice a7ba n7ba c7ba, .slice a7bb n7bb c7bb]) := by unfold Hid; rw [hV]; have h := (BoxN.new (u7.alloc (.cells #[.int .i64 P7a, .int .i64 Q7a, .int .i64 G7a] 24)) [.slice a7ba n7ba c7ba, .slice a7bb n7bb c7bb] 27); simpa using h
  try (go_wp2_with fail)
  rw [← hV]
  clear hV
  clear lt_HZ1
  clear lt_HZ2
  clear lt_HZ3
  clear lt_HZ4
  clear z_0_0 z_0_1 z_0_2 z_1_0 z_1_1 z_2_0 z_2_1 z_3_0 z_3_1
  replace HB := Lib.hid (Below.next HB.out hbV)
  replace HZ1 := Lib.hid (HZ1.out.below hbV)
  replace HZ2 := Lib.hid (HZ2.out.below hbV)
  replace HZ3 := Lib.hid (HZ3.out.below hbV)
  replace HZ4 := Lib.hid (HZ4.out.below hbV)
  replace HL1ba := Lib.hid (HL1ba.out.below hbV)
  replace HL1bb := Lib.hid (HL1bb.out.below hbV)
  replace HL1c := Lib.hid (HL1c.out.below hbV)
  replace HL3a := Lib.hid (HL3a.out.below hbV)
  replace HL3b := Lib.hid (HL3b.out.below hbV)
  replace HL3l := Lib.hid (HL3l.out.below hbV)
  replace HL5a := Lib.hid (HL5a.out.below hbV)
  replace HL5b := Lib.hid (HL5b.out.below hbV)
  replace HL5l := Lib.hid (HL5l.out.below hbV)
  replace HL7ba := Lib.hid (HL7ba.out.below hbV)
  replace HL7bb := Lib.hid (HL7bb.out.below hbV)
  replace HL7d := Lib.hid (HL7d.out.below hbV)
  clear hbV
  have z_0_0 := HZ1.out.cell (i := 0) rfl
  have z_0_1 := HZ1.out.cell (i := 1) rfl
  have z_0_2 := HZ1.out.cell (i := 2) rfl
  have z_1_0 := HZ2.out.cell (i := 0) rfl
  have z_1_1 := HZ2.out.cell (i := 1) rfl
  have z_2_0 := HZ3.out.cell (i := 0) rfl
  have z_2_1 := HZ3.out.cell (i := 1) rfl
  have z_3_0 := HZ4.out.cell (i := 0) rfl
  have z_3_1 := HZ4.out.cell (i := 1) rfl
  have z_4_0 := HZ5.out.cell (i := 0) rfl
  have z_4_1 := HZ5.out.cell (i := 1) rfl
  have z_4_2 := HZ5.out.cell (i := 2) rfl
  have z_5_0 := HZ6.out.cell (i := 0) rfl
  have z_5_1 := HZ6.out.cell (i := 1) rfl
  try (go_wp2_with fail)
  clear z_0_0 z_0_1 z_0_2 z_1_0 z_1_1 z_2_0 z_2_1 z_3_0 z_3_1 z_4_0 z_4_1 z_4_2 z_5_0 z_5_1
  refine (impl_MaskedShares ⟨P7a, Q7a, G7a⟩ _ _ ⟨l7ba, l7bb⟩ x7c l7d _ (DlR.mk HL7ba.out HL7bb.out) HL7d.out (by omega) ⟨by omega, by omega⟩).mono ?_
  rintro e u9 ⟨⟨v9a, v9b, rfl, o9a, o9b⟩, hb⟩
  obtain ⟨D9, hD9⟩ : ∃ d, mkR ⟨P7a, Q7a, G7a⟩ ⟨l7ba, l7bb⟩ x7c l7d = d := ⟨_, rfl⟩
  have HD9 := Lib.hid hD9
  rw [hD9] at o9a o9b
  clear hD9
  have hs9a := o9a.ints
  clear o9a
  have HL9a := Lib.hid hs9a
  obtain ⟨a9a, n9a, c9a, rfl⟩ := hs9a.shape
  have HE9a := Lib.hid hs9a.len
  clear hs9a
  have hs9b := o9b.ints
  clear o9b
  have HL9b := Lib.hid hs9b
  obtain ⟨a9b, n9b, c9b, rfl⟩ := hs9b.shape
  have HE9b := Lib.hid hs9b.len
  clear hs9b
  obtain ⟨q9, hq9⟩ : ∃ r, mkB ⟨P7a, Q7a, G7a⟩ ⟨l7ba, l7bb⟩ x7c l7d = r := ⟨_, rfl⟩
  have Hq9 := Lib.hid hq9
  rw [hq9]
  clear hq9
  replace HB := Lib.hid (Below.next HB.out hb)
  replace HZ1 := Lib.hid (HZ1.out.below hb)
  replace HZ2 := Lib.hid (HZ2.out.below hb)
  replace HZ3 := Lib.hid (HZ3.out.below hb)
  replace HZ4 := Lib.hid (HZ4.out.below hb)
  replace HZ5 := Lib.hid (HZ5.out.below hb)
  replace HZ6 := Lib.hid (HZ6.out.below hb)
  replace HL1ba := Lib.hid (HL1ba.out.below hb)
  replace HL1bb := Lib.hid (HL1bb.out.below hb)
  replace HL1c := Lib.hid (HL1c.out.below hb)
  replace HL3a := Lib.hid (HL3a.out.below hb)
  replace HL3b := Lib.hid (HL3b.out.below hb)
  replace HL3l := Lib.hid (HL3l.out.below hb)
  replace HL5a := Lib.hid (HL5a.out.below hb)
  replace HL5b := Lib.hid (HL5b.out.below hb)
  replace HL5l := Lib.hid (HL5l.out.below hb)
  replace HL7ba := Lib.hid (HL7ba.out.below hb)
  replace HL7bb := Lib.hid (HL7bb.out.below hb)
  replace HL7d := Lib.hid (HL7d.out.below hb)
  clear hb
  have z_0_0 := HZ1.out.cell (i := 0) rfl
  have z_0_1 := HZ1.out.cell (i := 1) rfl
  have z_0_2 := HZ1.out.cell (i := 2) rfl
  have z_1_0 := HZ2.out.cell (i := 0) rfl
  have z_1_1 := HZ2.out.cell (i := 1) rfl
  have z_2_0 := HZ3.out.cell (i := 0) rfl
  have z_2_1 := HZ3.out.cell (i := 1) rfl
  have z_3_0 := HZ4.out.cell (i := 0) rfl
  have z_3_1 := HZ4.out.cell (i := 1) rfl
  have z_4_0 := HZ5.out.cell (i := 0) rfl
  have z_4_1 := HZ5.out.cell (i := 1) rfl
  have z_4_2 := HZ5.out.cell (i := 2) rfl
  have z_5_0 := HZ6.out.cell (i := 0) rfl
  have z_5_1 := HZ6.out.cell (i := 1) rfl
  have lt_HZ1 := HZ1.out.lt
  have lt_HZ2 := HZ2.out.lt
  have lt_HZ3 := HZ3.out.lt
  have lt_HZ4 := HZ4.out.lt
  have lt_HZ5 := HZ5.out.lt
  have lt_HZ6 := HZ6.out.lt
  obtain ⟨V10, hV⟩ : ∃ V, V = u9.alloc (.cells #[.slice a9a n9a c9a, .slice a9b n9b c9b] 27) := ⟨_, rfl⟩
  have hbV : Below u9.heap.size u9 V10 := by rw [hV]; (repeat (first | exact Below.refl _ _ | assumption | refine Below.drew ?_ | refine Below.alloc ?_ (by first | (simp; done) | (simp; omega)) _ | refine Below.setCell ?_ (by first | (simp; done) | (simp; omega)) _))
  have HZ7 : Hid (BoxN V10 u9.heap.size 27 [.slice a9a n9a c9a, .slice a9b n9b c9b]) := by unfold Hid; rw [hV]; have h := (BoxN.new u9 [.slice a9a n9a c9a, .slice a9b n9b c9b] 27); simpa using h
  try (go_wp2_with fail)
  rw [← hV]
  clear hV
  clear lt_HZ1
  clear lt_HZ2
  clear lt_HZ3
  clear lt_HZ4
  clear lt_HZ5
  clear lt_HZ6
  clear z_0_0 z_0_1 z_0_2 z_1_0 z_1_1 z_2_0 z_2_1 z_3_0 z_3_1 z_4_0 z_4_1 z_4_2 z_5_0 z_5_1
  replace HB := Lib.hid (Below.next HB.out hbV)
  replace HZ1 := Lib.hid (HZ1.out.below hbV)
  replace HZ2 := Lib.hid (HZ2.out.below hbV)
  replace HZ3 := Lib.hid (HZ3.out.below hbV)
  replace HZ4 := Lib.hid (HZ4.out.below hbV)
  replace HZ5 := Lib.hid (HZ5.out.below hbV)
  replace HZ6 := Lib.hid (HZ6.out.below hbV)
  replace HL1ba := Lib.hid (HL1ba.out.below hbV)
  replace HL1bb := Lib.hid (HL1bb.out.below hbV)
  replace HL1c := Lib.hid (HL1c.out.below hbV)
  replace HL3a := Lib.hid (HL3a.out.below hbV)
  replace HL3b := Lib.hid (HL3b.out.below hbV)
  replace HL3l := Lib.hid (HL3l.out.below hbV)
  replace HL5a := Lib.hid (HL5a.out.below hbV)
  replace HL5b := Lib.hid (HL5b.out.below hbV)
  replace HL5l := Lib.hid (HL5l.out.below hbV)
  replace HL7ba := Lib.hid (HL7ba.out.below hbV)
  replace HL7bb := Lib.hid (HL7bb.out.below hbV)
  replace HL7d := Lib.hid (HL7d.out.below hbV)
  replace HL9a := Lib.hid (HL9a.out.below hbV)
  replace HL9b := Lib.hid (HL9b.out.below hbV)
  clear hbV
  have z_0_0 := HZ1.out.cell (i := 0) rfl
  have z_0_1 := HZ1.out.cell (i := 1) rfl
  have z_0_2 := HZ1.out.cell (i := 2) rfl
  have z_1_0 := HZ2.out.cell (i := 0) rfl
  have z_1_1 := HZ2.out.cell (i := 1) rfl
  have z_2_0 := HZ3.out.cell (i := 0) rfl
  have z_2_1 := HZ3.out.cell (i := 1) rfl
  have z_3_0 := HZ4.out.cell (i := 0) rfl
  have z_3_1 := HZ4.out.cell (i := 1) rfl
  have z_4_0 := HZ5.out.cell (i := 0) rfl
  have z_4_1 := HZ5.out.cell (i := 1) rfl
  have z_4_2 := HZ5.out.cell (i := 2) rfl
  have z_5_0 := HZ6.out.cell (i := 0) rfl
  have z_5_1 := HZ6.out.cell (i := 1) rfl
  have z_6_0 := HZ7.out.cell (i := 0) rfl
  have z_6_1 := HZ7.out.cell (i := 1) rfl
  try (go_wp2_with fail)
  clear z_0_0 z_0_1 z_0_2 z_1_0 z_1_1 z_2_0 z_2_1 z_3_0 z_3_1 z_4_0 z_4_1 z_4_2 z_5_0 z_5_1 z_6_0 z_6_1
  refine (spec_MaskedShares ⟨P7a, Q7a, G7a⟩ _ _ ⟨l7ba, l7bb⟩ x7c l7d _ (DlR.mk HL7ba.out HL7bb.out) HL7d.out (by omega)).mono ?_
  rintro e u11 ⟨⟨v11a, v11b, rfl, o11a, o11b⟩, hb⟩
  rw [HD9.out] at o11a o11b
  have hs11a := o11a.ints
  clear o11a
  have HL11a := Lib.hid hs11a
  obtain ⟨a11a, n11a, c11a, rfl⟩ := hs11a.shape
  have HE11a := Lib.hid hs11a.len
  clear hs11a
  have hs11b := o11b.ints
  clear o11b
  have HL11b := Lib.hid hs11b
  obtain ⟨a11b, n11b, c11b, rfl⟩ := hs11b.shape
  have HE11b := Lib.hid hs11b.len
  clear hs11b
  rw [Hq9.out]
  replace HB := Lib.hid (Below.next HB.out hb)
  replace HZ1 := Lib.hid (HZ1.out.below hb)
  replace HZ2 := Lib.hid (HZ2.out.below hb)
  replace HZ3 := Lib.hid (HZ3.out.below hb)
  replace HZ4 := Lib.hid (HZ4.out.below hb)
  replace HZ5 := Lib.hid (HZ5.out.below hb)
  replace HZ6 := Lib.hid (HZ6.out.below hb)
  replace HZ7 := Lib.hid (HZ7.out.below hb)
  replace HL1ba := Lib.hid (HL1ba.out.below hb)
  replace HL1bb := Lib.hid (HL1bb.out.below hb)
  replace HL1c := Lib.hid (HL1c.out.below hb)
  replace HL3a := Lib.hid (HL3a.out.below hb)
  replace HL3b := Lib.hid (HL3b.out.below hb)
  replace HL3l := Lib.hid (HL3l.out.below hb)
  replace HL5a := Lib.hid (HL5a.out.below hb)
  replace HL5b := Lib.hid (HL5b.out.below hb)
  replace HL5l := Lib.hid (HL5l.out.below hb)
  replace HL7ba := Lib.hid (HL7ba.out.below hb)
  replace HL7bb := Lib.hid (HL7bb.out.below hb)
  replace HL7d := Lib.hid (HL7d.out.below hb)
  replace HL9a := Lib.hid (HL9a.out.below hb)
  replace HL9b := Lib.hid (HL9b.out.below hb)
  clear hb
  have eq_q3 : (q3 == q3) = true := by simp
  have z_0_0 := HZ1.out.cell (i := 0) rfl
  have z_0_1 := HZ1.out.cell (i := 1) rfl
  have z_0_2 := HZ1.out.cell (i := 2) rfl
  have z_1_0 := HZ2.out.cell (i := 0) rfl
  have z_1_1 := HZ2.out.cell (i := 1) rfl
  have z_2_0 := HZ3.out.cell (i := 0) rfl
  have z_2_1 := HZ3.out.cell (i := 1) rfl
  have z_3_0 := HZ4.out.cell (i := 0) rfl
  have z_3_1 := HZ4.out.cell (i := 1) rfl
  have z_4_0 := HZ5.out.cell (i := 0) rfl
  have z_4_1 := HZ5.out.cell (i := 1) rfl
  have z_4_2 := HZ5.out.cell (i := 2) rfl
  have z_5_0 := HZ6.out.cell (i := 0) rfl
  have z_5_1 := HZ6.out.cell (i := 1) rfl
  have z_6_0 := HZ7.out.cell (i := 0) rfl
  have z_6_1 := HZ7.out.cell (i := 1) rfl
  have lt_HZ1 := HZ1.out.lt
  have lt_HZ2 := HZ2.out.lt
  have lt_HZ3 := HZ3.out.lt
  have lt_HZ4 := HZ4.out.lt
  have lt_HZ5 := HZ5.out.lt
  have lt_HZ6 := HZ6.out.lt
  have lt_HZ7 := HZ7.out.lt
  obtain ⟨V12, hV⟩ : ∃ V, V = u11.alloc (.cells #[.slice a11a n11a c11a, .slice a11b n11b c11b] 27) := ⟨_, rfl⟩
  have hbV : Below u11.heap.size u11 V12 := by rw [hV]; (repeat (first | exact Below.refl _ _ | assumption | refine Below.drew ?_ | refine Below.alloc ?_ (by first | (simp; done) | (simp; omega)) _ | refine Below.setCell ?_ (by first | (simp; done) | (simp; omega)) _))
  have HZ8 : Hid (BoxN V12 u11.heap.size 27 [.slice a11a n11a c11a, .slice a11b n11b c11b]) := by unfold Hid; rw [hV]; have h := (BoxN.new u11 [.slice a11a n11a c11a, .slice a11b n11b c11b] 27); simpa using h
  try (go_wp2_with fail)
  rw [← hV]
  clear hV
  clear lt_HZ1
  clear lt_HZ2
  clear lt_HZ3
  clear lt_HZ4
  clear lt_HZ5
  clear lt_HZ6
  clear lt_HZ7
  clear z_0_0 z_0_1 z_0_2 z_1_0 z_1_1 z_2_0 z_2_1 z_3_0 z_3_1 z_4_0 z_4_1 z_4_2 z_5_0 z_5_1 z_6_0 z_6_1
  replace HB := Lib.hid (Below.next HB.out hbV)
  replace HZ1 := Lib.hid (HZ1.out.below hbV)
  replace HZ2 := Lib.hid (HZ2.out.below hbV)
  replace HZ3 := Lib.hid (HZ3.out.below hbV)
  replace HZ4 := Lib.hid (HZ4.out.below hbV)
  replace HZ5 := Lib.hid (HZ5.out.below hbV)
  replace HZ6 := Lib.hid (HZ6.out.below hbV)
  replace HZ7 := Lib.hid (HZ7.out.below hbV)
  replace HL1ba := Lib.hid (HL1ba.out.below hbV)
  replace HL1bb := Lib.hid (HL1bb.out.below hbV)
  replace HL1c := Lib.hid (HL1c.out.below hbV)
  replace HL3a := Lib.hid (HL3a.out.below hbV)
  replace HL3b := Lib.hid (HL3b.out.below hbV)
  replace HL3l := Lib.hid (HL3l.out.below hbV)
  replace HL5a := Lib.hid (HL5a.out.below hbV)
  replace HL5b := Lib.hid (HL5b.out.below hbV)
  replace HL5l := Lib.hid (HL5l.out.below hbV)
  replace HL7ba := Lib.hid (HL7ba.out.below hbV)
  replace HL7bb := Lib.hid (HL7bb.out.below hbV)
  replace HL7d := Lib.hid (HL7d.out.below hbV)
  replace HL9a := Lib.hid (HL9a.out.below hbV)
  replace HL9b := Lib.hid (HL9b.out.below hbV)
  replace HL11a := Lib.hid (HL11a.out.below hbV)
  replace HL11b := Lib.hid (HL11b.out.below hbV)
  clear hbV
  have z_0_0 := HZ1.out.cell (i := 0) rfl
  have z_0_1 := HZ1.out.cell (i := 1) rfl
  have z_0_2 := HZ1.out.cell (i := 2) rfl
  have z_1_0 := HZ2.out.cell (i := 0) rfl
  have z_1_1 := HZ2.out.cell (i := 1) rfl
  have z_2_0 := HZ3.out.cell (i := 0) rfl
  have z_2_1 := HZ3.out.cell (i := 1) rfl
  have z_3_0 := HZ4.out.cell (i := 0) rfl
  have z_3_1 := HZ4.out.cell (i := 1) rfl
  have z_4_0 := HZ5.out.cell (i := 0) rfl
  have z_4_1 := HZ5.out.cell (i := 1) rfl
  have z_4_2 := HZ5.out.cell (i := 2) rfl
  have z_5_0 := HZ6.out.cell (i := 0) rfl
  have z_5_1 := HZ6.out.cell (i := 1) rfl
  have z_6_0 := HZ7.out.cell (i := 0) rfl
  have z_6_1 := HZ7.out.cell (i := 1) rfl
  have z_7_0 := HZ8.out.cell (i := 0) rfl
  have z_7_1 := HZ8.out.cell (i := 1) rfl
  try (go_wp2_with fail)
  clear z_0_0 z_0_1 z_0_2 z_1_0 z_1_1 z_2_0 z_2_1 z_3_0 z_3_1 z_4_0 z_4_1 z_4_2 z_5_0 z_5_1 z_6_0 z_6_1 z_7_0 z_7_1
  refine (laws_qInts _ _ D3.c _ HL3a.out HL5a.out).mono ?_
  rintro e u13 ⟨rfl, hb⟩
  replace HB := Lib.hid (Below.next HB.out hb)
  replace HZ1 := Lib.hid (HZ1.out.below hb)
  replace HZ2 := Lib.hid (HZ2.out.below hb)
  replace HZ3 := Lib.hid (HZ3.out.below hb)
  replace HZ4 := Lib.hid (HZ4.out.below hb)
  replace HZ5 := Lib.hid (HZ5.out.below hb)
  replace HZ6 := Lib.hid (HZ6.out.below hb)
  replace HZ7 := Lib.hid (HZ7.out.below hb)
  replace HZ8 := Lib.hid (HZ8.out.below hb)
  replace HL1ba := Lib.hid (HL1ba.out.below hb)
  replace HL1bb := Lib.hid (HL1bb.out.below hb)
  replace HL1c := Lib.hid (HL1c.out.below hb)
  replace HL3a := Lib.hid (HL3a.out.below hb)
  replace HL3b := Lib.hid (HL3b.out.below hb)
  replace HL3l := Lib.hid (HL3l.out.below hb)
  replace HL5a := Lib.hid (HL5a.out.below hb)
  replace HL5b := Lib.hid (HL5b.out.below hb)
  replace HL5l := Lib.hid (HL5l.out.below hb)
  replace HL7ba := Lib.hid (HL7ba.out.below hb)
  replace HL7bb := Lib.hid (HL7bb.out.below hb)
  replace HL7d := Lib.hid (HL7d.out.below hb)
  replace HL9a := Lib.hid (HL9a.out.below hb)
  replace HL9b := Lib.hid (HL9b.out.below hb)
  replace HL11a := Lib.hid (HL11a.out.below hb)
  replace HL11b := Lib.hid (HL11b.out.below hb)
  clear hb
  have z_0_0 := HZ1.out.cell (i := 0) rfl
  have z_0_1 := HZ1.out.cell (i := 1) rfl
  have z_0_2 := HZ1.out.cell (i := 2) rfl
  have z_1_0 := HZ2.out.cell (i := 0) rfl
  have z_1_1 := HZ2.out.cell (i := 1) rfl
  have z_2_0 := HZ3.out.cell (i := 0) rfl
  have z_2_1 := HZ3.out.cell (i := 1) rfl
  have z_3_0 := HZ4.out.cell (i := 0) rfl
  have z_3_1 := HZ4.out.cell (i := 1) rfl
  have z_4_0 := HZ5.out.cell (i := 0) rfl
  have z_4_1 := HZ5.out.cell (i := 1) rfl
  have z_4_2 := HZ5.out.cell (i := 2) rfl
  have z_5_0 := HZ6.out.cell (i := 0) rfl
  have z_5_1 := HZ6.out.cell (i := 1) rfl
  have z_6_0 := HZ7.out.cell (i := 0) rfl
  have z_6_1 := HZ7.out.cell (i := 1) rfl
  have z_7_0 := HZ8.out.cell (i := 0) rfl
  have z_7_1 := HZ8.out.cell (i := 1) rfl
  try (go_wp2_with fail)
  clear z_0_0 z_0_1 z_0_2 z_1_0 z_1_1 z_2_0 z_2_1 z_3_0 z_3_1 z_4_0 z_4_1 z_4_2 z_5_0 z_5_1 z_6_0 z_6_1 z_7_0 z_7_1
  refine (laws_qInts _ _ D3.s _ HL3b.out HL5b.out).mono ?_
  rintro e u14 ⟨rfl, hb⟩
  replace HB := Lib.hid (Below.next HB.out hb)
  replace HZ1 := Lib.hid (HZ1.out.below hb)
  replace HZ2 := Lib.hid (HZ2.out.below hb)
  replace HZ3 := Lib.hid (HZ3.out.below hb)
  replace HZ4 := Lib.hid (HZ4.out.below hb)
  replace HZ5 := Lib.hid (HZ5.out.below hb)
  replace HZ6 := Lib.hid (HZ6.out.below hb)
  replace HZ7 := Lib.hid (HZ7.out.below hb)
  replace HZ8 := Lib.hid (HZ8.out.below hb)
  replace HL1ba := Lib.hid (HL1ba.out.below hb)
  replace HL1bb := Lib.hid (HL1bb.out.below hb)
  replace HL1c := Lib.hid (HL1c.out.below hb)
  replace HL3a := Lib.hid (HL3a.out.below hb)
  replace HL3b := Lib.hid (HL3b.out.below hb)
  replace HL3l := Lib.hid (HL3l.out.below hb)
  replace HL5a := Lib.hid (HL5a.out.below hb)
  replace HL5b := Lib.hid (HL5b.out.below hb)
  replace HL5l := Lib.hid (HL5l.out.below hb)
  replace HL7ba := Lib.hid (HL7ba.out.below hb)
  replace HL7bb := Lib.hid (HL7bb.out.below hb)
  replace HL7d := Lib.hid (HL7d.out.below hb)
  replace HL9a := Lib.hid (HL9a.out.below hb)
  replace HL9b := Lib.hid (HL9b.out.below hb)
  replace HL11a := Lib.hid (HL11a.out.below hb)
  replace HL11b := Lib.hid (HL11b.out.below hb)
  clear hb
  have z_0_0 := HZ1.out.cell (i := 0) rfl
  have z_0_1 := HZ1.out.cell (i := 1) rfl
  have z_0_2 := HZ1.out.cell (i := 2) rfl
  have z_1_0 := HZ2.out.cell (i := 0) rfl
  have z_1_1 := HZ2.out.cell (i := 1) rfl
  have z_2_0 := HZ3.out.cell (i := 0) rfl
  have z_2_1 := HZ3.out.cell (i := 1) rfl
  have z_3_0 := HZ4.out.cell (i := 0) rfl
  have z_3_1 := HZ4.out.cell (i := 1) rfl
  have z_4_0 := HZ5.out.cell (i := 0) rfl
  have z_4_1 := HZ5.out.cell (i := 1) rfl
  have z_4_2 := HZ5.out.cell (i := 2) rfl
  have z_5_0 := HZ6.out.cell (i := 0) rfl
  have z_5_1 := HZ6.out.cell (i := 1) rfl
  have z_6_0 := HZ7.out.cell (i := 0) rfl
  have z_6_1 := HZ7.out.cell (i := 1) rfl
  have z_7_0 := HZ8.out.cell (i := 0) rfl
  have z_7_1 := HZ8.out.cell (i := 1) rfl
  try (go_wp2_with fail)
  clear z_0_0 z_0_1 z_0_2 z_1_0 z_1_1 z_2_0 z_2_1 z_3_0 z_3_1 z_4_0 z_4_1 z_4_2 z_5_0 z_5_1 z_6_0 z_6_1 z_7_0 z_7_1
  refine (laws_qInts _ _ (rfL ⟨P1a, Q1a, G1a⟩ ⟨l1ba, l1bb⟩ l1c) _ HL3l.out HL5l.out).mono ?_
  rintro e u15 ⟨rfl, hb⟩
  replace HB := Lib.hid (Below.next HB.out hb)
  replace HZ1 := Lib.hid (HZ1.out.below hb)
  replace HZ2 := Lib.hid (HZ2.out.below hb)
  replace HZ3 := Lib.hid (HZ3.out.below hb)
  replace HZ4 := Lib.hid (HZ4.out.below hb)
  replace HZ5 := Lib.hid (HZ5.out.below hb)
  replace HZ6 := Lib.hid (HZ6.out.below hb)
  replace HZ7 := Lib.hid (HZ7.out.below hb)
  replace HZ8 := Lib.hid (HZ8.out.below hb)
  replace HL1ba := Lib.hid (HL1ba.out.below hb)
  replace HL1bb := Lib.hid (HL1bb.out.below hb)
  replace HL1c := Lib.hid (HL1c.out.below hb)
  replace HL3a := Lib.hid (HL3a.out.below hb)
  replace HL3b := Lib.hid (HL3b.out.below hb)
  replace HL3l := Lib.hid (HL3l.out.below hb)
  replace HL5a := Lib.hid (HL5a.out.below hb)
  replace HL5b := Lib.hid (HL5b.out.below hb)
  replace HL5l := Lib.hid (HL5l.out.below hb)
  replace HL7ba := Lib.hid (HL7ba.out.below hb)
  replace HL7bb := Lib.hid (HL7bb.out.below hb)
  replace HL7d := Lib.hid (HL7d.out.below hb)
  replace HL9a := Lib.hid (HL9a.out.below hb)
  replace HL9b := Lib.hid (HL9b.out.below hb)
  replace HL11a := Lib.hid (HL11a.out.below hb)
  replace HL11b := Lib.hid (HL11b.out.below hb)
  clear hb
  have eq_q9 : (q9 == q9) = true := by simp
  have z_0_0 := HZ1.out.cell (i := 0) rfl
  have z_0_1 := HZ1.out.cell (i := 1) rfl
  have z_0_2 := HZ1.out.cell (i := 2) rfl
  have z_1_0 := HZ2.out.cell (i := 0) rfl
  have z_1_1 := HZ2.out.cell (i := 1) rfl
  have z_2_0 := HZ3.out.cell (i := 0) rfl
  have z_2_1 := HZ3.out.cell (i := 1) rfl
  have z_3_0 := HZ4.out.cell (i := 0) rfl
  have z_3_1 := HZ4.out.cell (i := 1) rfl
  have z_4_0 := HZ5.out.cell (i := 0) rfl
  have z_4_1 := HZ5.out.cell (i := 1) rfl
  have z_4_2 := HZ5.out.cell (i := 2) rfl
  have z_5_0 := HZ6.out.cell (i := 0) rfl
  have z_5_1 := HZ6.out.cell (i := 1) rfl
  have z_6_0 := HZ7.out.cell (i := 0) rfl
  have z_6_1 := HZ7.out.cell (i := 1) rfl
  have z_7_0 := HZ8.out.cell (i := 0) rfl
  have z_7_1 := HZ8.out.cell (i := 1) rfl
  try (go_wp2_with fail)
  clear z_0_0 z_0_1 z_0_2 z_1_0 z_1_1 z_2_0 z_2_1 z_3_0 z_3_1 z_4_0 z_4_1 z_4_2 z_5_0 z_5_1 z_6_0 z_6_1 z_7_0 z_7_1
  refine (laws_qInts _ _ D9.c _ HL9a.out HL11a.out).mono ?_
  rintro e u16 ⟨rfl, hb⟩
  replace HB := Lib.hid (Below.next HB.out hb)
  replace HZ1 := Lib.hid (HZ1.out.below hb)
  replace HZ2 := Lib.hid (HZ2.out.below hb)
  replace HZ3 := Lib.hid (HZ3.out.below hb)
  replace HZ4 := Lib.hid (HZ4.out.below hb)
  replace HZ5 := Lib.hid (HZ5.out.below hb)
  replace HZ6 := Lib.hid (HZ6.out.below hb)
  replace HZ7 := Lib.hid (HZ7.out.below hb)
  replace HZ8 := Lib.hid (HZ8.out.below hb)
  replace HL1ba := Lib.hid (HL1ba.out.below hb)
  replace HL1bb := Lib.hid (HL1bb.out.below hb)
  replace HL1c := Lib.hid (HL1c.out.below hb)
  replace HL3a := Lib.hid (HL3a.out.below hb)
  replace HL3b := Lib.hid (HL3b.out.below hb)
  replace HL3l := Lib.hid (HL3l.out.below hb)
  replace HL5a := Lib.hid (HL5a.out.below hb)
  replace HL5b := Lib.hid (HL5b.out.below hb)
  replace HL5l := Lib.hid (HL5l.out.below hb)
  replace HL7ba := Lib.hid (HL7ba.out.below hb)
  replace HL7bb := Lib.hid (HL7bb.out.below hb)
  replace HL7d := Lib.hid (HL7d.out.below hb)
  replace HL9a := Lib.hid (HL9a.out.below hb)
  replace HL9b := Lib.hid (HL9b.out.below hb)
  replace HL11a := Lib.hid (HL11a.out.below hb)
  replace HL11b := Lib.hid (HL11b.out.below hb)
  clear hb
  have z_0_0 := HZ1.out.cell (i := 0) rfl
  have z_0_1 := HZ1.out.cell (i := 1) rfl
  have z_0_2 := HZ1.out.cell (i := 2) rfl
  have z_1_0 := HZ2.out.cell (i := 0) rfl
  have z_1_1 := HZ2.out.cell (i := 1) rfl
  have z_2_0 := HZ3.out.cell (i := 0) rfl
  have z_2_1 := HZ3.out.cell (i := 1) rfl
  have z_3_0 := HZ4.out.cell (i := 0) rfl
  have z_3_1 := HZ4.out.cell (i := 1) rfl
  have z_4_0 := HZ5.out.cell (i := 0) rfl
  have z_4_1 := HZ5.out.cell (i := 1) rfl
  have z_4_2 := HZ5.out.cell (i := 2) rfl
  have z_5_0 := HZ6.out.cell (i := 0) rfl
  have z_5_1 := HZ6.out.cell (i := 1) rfl
  have z_6_0 := HZ7.out.cell (i := 0) rfl
  have z_6_1 := HZ7.out.cell (i := 1) rfl
  have z_7_0 := HZ8.out.cell (i := 0) rfl
  have z_7_1 := HZ8.out.cell (i := 1) rfl
  try (go_wp2_with fail)
  clear z_0_0 z_0_1 z_0_2 z_1_0 z_1_1 z_2_0 z_2_1 z_3_0 z_3_1 z_4_0 z_4_1 z_4_2 z_5_0 z_5_1 z_6_0 z_6_1 z_7_0 z_7_1
  refine (laws_qInts _ _ D9.s _ HL9b.out HL11b.out).mono ?_
  rintro e u17 ⟨rfl, hb⟩
  replace HB := Lib.hid (Below.next HB.out hb)
  replace HZ1 := Lib.hid (HZ1.out.below hb)
  replace HZ2 := Lib.hid (HZ2.out.below hb)
  replace HZ3 := Lib.hid (HZ3.out.below hb)
  replace HZ4 := Lib.hid (HZ4.out.below hb)
  replace HZ5 := Lib.hid (HZ5.out.below hb)
  replace HZ6 := Lib.hid (HZ6.out.below hb)
  replace HZ7 := Lib.hid (HZ7.out.below hb)
  replace HZ8 := Lib.hid (HZ8.out.below hb)
  replace HL1ba := Lib.hid (HL1ba.out.below hb)
  replace HL1bb := Lib.hid (HL1bb.out.below hb)
  replace HL1c := Lib.hid (HL1c.out.below hb)
  replace HL3a := Lib.hid (HL3a.out.below hb)
  replace HL3b := Lib.hid (HL3b.out.below hb)
  replace HL3l := Lib.hid (HL3l.out.below hb)
  replace HL5a := Lib.hid (HL5a.out.below hb)
  replace HL5b := Lib.hid (HL5b.out.below hb)
  replace HL5l := Lib.hid (HL5l.out.below hb)
  replace HL7ba := Lib.hid (HL7ba.out.below hb)
  replace HL7bb := Lib.hid (HL7bb.out.below hb)
  replace HL7d := Lib.hid (HL7d.out.below hb)
  replace HL9a := Lib.hid (HL9a.out.below hb)
  replace HL9b := Lib.hid (HL9b.out.below hb)
  replace HL11a := Lib.hid (HL11a.out.below hb)
  replace HL11b := Lib.hid (HL11b.out.below hb)
  clear hb
  -- the masked shares
  cases q9 with
  | false =>
    cases q3 with
    | false =>
      have z_0_0 := HZ1.out.cell (i := 0) rfl
      have z_0_1 := HZ1.out.cell (i := 1) rfl
      have z_0_2 := HZ1.out.cell (i := 2) rfl
      have z_1_0 := HZ2.out.cell (i := 0) rfl
      have z_1_1 := HZ2.out.cell (i := 1) rfl
      have z_2_0 := HZ3.out.cell (i := 0) rfl
      have z_2_1 := HZ3.out.cell (i := 1) rfl
      have z_3_0 := HZ4.out.cell (i := 0) rfl
      have z_3_1 := HZ4.out.cell (i := 1) rfl
      have z_4_0 := HZ5.out.cell (i := 0) rfl
      have z_4_1 := HZ5.out.cell (i := 1) rfl
      have z_4_2 := HZ5.out.cell (i := 2) rfl
      have z_5_0 := HZ6.out.cell (i := 0) rfl
      have z_5_1 := HZ6.out.cell (i := 1) rfl
      have z_6_0 := HZ7.out.cell (i := 0) rfl
      have z_6_1 := HZ7.out.cell (i := 1) rfl
      have z_7_0 := HZ8.out.cell (i := 0) rfl
      have z_7_1 := HZ8.out.cell (i := 1) rfl
      try (go_wp2_with fail)
      clear z_0_0 z_0_1 z_0_2 z_1_0 z_1_1 z_2_0 z_2_1 z_3_0 z_3_1 z_4_0 z_4_1 z_4_2 z_5_0 z_5_1 z_6_0 z_6_1 z_7_0 z_7_1
      go_ret
      exact ⟨rfl, HB.out⟩
    | true =>
      obtain ⟨t1, t2, t3, t4, t5, t6⟩ := rf_facts Hq3.out HD3.out
      have HVK := Lib.hid t1
      have HVD := Lib.hid t2
      have HBE := Lib.hid t3
      have HLD : Hid (0 < (D3).c.length) := t5
      have HLK : Hid (0 < (l1ba).length) := t6
      obtain ⟨y0, hy0⟩ : ∃ y, nth l1ba 0 = y := ⟨_, rfl⟩
      have Hy0 := Lib.hid hy0
      have Hy1 : Hid (nth D3.c 0 = y0) := by unfold Hid; rw [t4]; exact hy0
      clear t1 t2 t3 t4 t5 t6 hy0
      have z_0_0 := HZ1.out.cell (i := 0) rfl
      have z_0_1 := HZ1.out.cell (i := 1) rfl
      have z_0_2 := HZ1.out.cell (i := 2) rfl
      have z_1_0 := HZ2.out.cell (i := 0) rfl
      have z_1_1 := HZ2.out.cell (i := 1) rfl
      have z_2_0 := HZ3.out.cell (i := 0) rfl
      have z_2_1 := HZ3.out.cell (i := 1) rfl
      have z_3_0 := HZ4.out.cell (i := 0) rfl
      have z_3_1 := HZ4.out.cell (i := 1) rfl
      have z_4_0 := HZ5.out.cell (i := 0) rfl
      have z_4_1 := HZ5.out.cell (i := 1) rfl
      have z_4_2 := HZ5.out.cell (i := 2) rfl
      have z_5_0 := HZ6.out.cell (i := 0) rfl
      have z_5_1 := HZ6.out.cell (i := 1) rfl
      have z_6_0 := HZ7.out.cell (i := 0) rfl
      have z_6_1 := HZ7.out.cell (i := 1) rfl
      have z_7_0 := HZ8.out.cell (i := 0) rfl
      have z_7_1 := HZ8.out.cell (i := 1) rfl
      try (go_wp2_with fail)
      clear z_0_0 z_0_1 z_0_2 z_1_0 z_1_1 z_2_0 z_2_1 z_3_0 z_3_1 z_4_0 z_4_1 z_4_2 z_5_0 z_5_1 z_6_0 z_6_1 z_7_0 z_7_1
      refine (impl_IsRightKey ⟨P1a, Q1a, G1a⟩ _ ⟨l1ba, l1bb⟩ _ (DlR.mk HL1ba.out HL1bb.out)).mono ?_
      rintro e u18 ⟨rfl, hb⟩
      rw [HVK.out, Bool.true_and]
      obtain ⟨q18, hq18⟩ : ∃ r, decide ((badE ⟨P1a, Q1a, G1a⟩ ⟨l1ba, l1bb⟩).length = 0) = r := ⟨_, rfl⟩
      have Hq18 := Lib.hid hq18
      rw [hq18]
      clear hq18
      replace HB := Lib.hid (Below.next HB.out hb)
      replace HZ1 := Lib.hid (HZ1.out.below hb)
      replace HZ2 := Lib.hid (HZ2.out.below hb)
      replace HZ3 := Lib.hid (HZ3.out.below hb)
      replace HZ4 := Lib.hid (HZ4.out.below hb)
      replace HZ5 := Lib.hid (HZ5.out.below hb)
      replace HZ6 := Lib.hid (HZ6.out.below hb)
      replace HZ7 := Lib.hid (HZ7.out.below hb)
      replace HZ8 := Lib.hid (HZ8.out.below hb)
      replace HL1ba := Lib.hid (HL1ba.out.below hb)
      replace HL1bb := Lib.hid (HL1bb.out.below hb)
      replace HL1c := Lib.hid (HL1c.out.below hb)
      replace HL3a := Lib.hid (HL3a.out.below hb)
      replace HL3b := Lib.hid (HL3b.out.below hb)
      replace HL3l := Lib.hid (HL3l.out.below hb)
      replace HL5a := Lib.hid (HL5a.out.below hb)
      replace HL5b := Lib.hid (HL5b.out.below hb)
      replace HL5l := Lib.hid (HL5l.out.below hb)
      replace HL7ba := Lib.hid (HL7ba.out.below hb)
      replace HL7bb := Lib.hid (HL7bb.out.below hb)
      replace HL7d := Lib.hid (HL7d.out.below hb)
      replace HL9a := Lib.hid (HL9a.out.below hb)
      replace HL9b := Lib.hid (HL9b.out.below hb)
      replace HL11a := Lib.hid (HL11a.out.below hb)
      replace HL11b := Lib.hid (HL11b.out.below hb)
      clear hb
      have z_0_0 := HZ1.out.cell (i := 0) rfl
      have z_0_1 := HZ1.out.cell (i := 1) rfl
      have z_0_2 := HZ1.out.cell (i := 2) rfl
      have z_1_0 := HZ2.out.cell (i := 0) rfl
      have z_1_1 := HZ2.out.cell (i := 1) rfl
      have z_2_0 := HZ3.out.cell (i := 0) rfl
      have z_2_1 := HZ3.out.cell (i := 1) rfl
      have z_3_0 := HZ4.out.cell (i := 0) rfl
      have z_3_1 := HZ4.out.cell (i := 1) rfl
      have z_4_0 := HZ5.out.cell (i := 0) rfl
      have z_4_1 := HZ5.out.cell (i := 1) rfl
      have z_4_2 := HZ5.out.cell (i := 2) rfl
      have z_5_0 := HZ6.out.cell (i := 0) rfl
      have z_5_1 := HZ6.out.cell (i := 1) rfl
      have z_6_0 := HZ7.out.cell (i := 0) rfl
      have z_6_1 := HZ7.out.cell (i := 1) rfl
      have z_7_0 := HZ8.out.cell (i := 0) rfl
      have z_7_1 := HZ8.out.cell (i := 1) rfl
      try (go_wp2_with fail)
      clear z_0_0 z_0_1 z_0_2 z_1_0 z_1_1 z_2_0 z_2_1 z_3_0 z_3_1 z_4_0 z_4_1 z_4_2 z_5_0 z_5_1 z_6_0 z_6_1 z_7_0 z_7_1
      refine (impl_IsRightKey ⟨P1a, Q1a, G1a⟩ _ D3 _ (DlR.mk HL3a.out HL3b.out)).mono ?_
      rintro e u19 ⟨rfl, hb⟩
      rw [HVD.out, Bool.true_and, HBE.out]
      rw [Hq18.out]
      replace HB := Lib.hid (Below.next HB.out hb)
      replace HZ1 := Lib.hid (HZ1.out.below hb)
      replace HZ2 := Lib.hid (HZ2.out.below hb)
      replace HZ3 := Lib.hid (HZ3.out.below hb)
      replace HZ4 := Lib.hid (HZ4.out.below hb)
      replace HZ5 := Lib.hid (HZ5.out.below hb)
      replace HZ6 := Lib.hid (HZ6.out.below hb)
      replace HZ7 := Lib.hid (HZ7.out.below hb)
      replace HZ8 := Lib.hid (HZ8.out.below hb)
      replace HL1ba := Lib.hid (HL1ba.out.below hb)
      replace HL1bb := Lib.hid (HL1bb.out.below hb)
      replace HL1c := Lib.hid (HL1c.out.below hb)
      replace HL3a := Lib.hid (HL3a.out.below hb)
      replace HL3b := Lib.hid (HL3b.out.below hb)
      replace HL3l := Lib.hid (HL3l.out.below hb)
      replace HL5a := Lib.hid (HL5a.out.below hb)
      replace HL5b := Lib.hid (HL5b.out.below hb)
      replace HL5l := Lib.hid (HL5l.out.below hb)
      replace HL7ba := Lib.hid (HL7ba.out.below hb)
      replace HL7bb := Lib.hid (HL7bb.out.below hb)
      replace HL7d := Lib.hid (HL7d.out.below hb)
      replace HL9a := Lib.hid (HL9a.out.below hb)
      replace HL9b := Lib.hid (HL9b.out.below hb)
      replace HL11a := Lib.hid (HL11a.out.below hb)
      replace HL11b := Lib.hid (HL11b.out.below hb)
      clear hb
      have z_0_0 := HZ1.out.cell (i := 0) rfl
      have z_0_1 := HZ1.out.cell (i := 1) rfl
      have z_0_2 := HZ1.out.cell (i := 2) rfl
      have z_1_0 := HZ2.out.cell (i := 0) rfl
      have z_1_1 := HZ2.out.cell (i := 1) rfl
      have z_2_0 := HZ3.out.cell (i := 0) rfl
      have z_2_1 := HZ3.out.cell (i := 1) rfl
      have z_3_0 := HZ4.out.cell (i := 0) rfl
      have z_3_1 := HZ4.out.cell (i := 1) rfl
      have z_4_0 := HZ5.out.cell (i := 0) rfl
      have z_4_1 := HZ5.out.cell (i := 1) rfl
      have z_4_2 := HZ5.out.cell (i := 2) rfl
      have z_5_0 := HZ6.out.cell (i := 0) rfl
      have z_5_1 := HZ6.out.cell (i := 1) rfl
      have z_6_0 := HZ7.out.cell (i := 0) rfl
      have z_6_1 := HZ7.out.cell (i := 1) rfl
      have z_7_0 := HZ8.out.cell (i := 0) rfl
      have z_7_1 := HZ8.out.cell (i := 1) rfl
      go_wp2_with fail
      clear z_0_0 z_0_1 z_0_2 z_1_0 z_1_1 z_2_0 z_2_1 z_3_0 z_3_1 z_4_0 z_4_1 z_4_2 z_5_0 z_5_1 z_6_0 z_6_1 z_7_0 z_7_1
      obtain ⟨ca, co, hca, hcp⟩ := HL3a.out.at_ (by have := HLD.out; have := HE3a.out; omega)
      have yc := hcp 0 (by have := HLD.out; have := HE3a.out; omega)
      rw [Hy1.out, Nat.add_zero] at yc
      have hca' := hca
      subst hca'
      clear hca hcp
      obtain ⟨da, dd, hda, hdp⟩ := HL1ba.out.at_ (by have := HLK.out; have := HE1ba.out; omega)
      have yd := hdp 0 (by have := HLK.out; have := HE1ba.out; omega)
      rw [Hy0.out, Nat.add_zero] at yd
      have hda' := hda
      subst hda'
      clear hda hdp
      have hn1 : 0 < n3a := by have := HLD.out; have := HE3a.out; omega
      have hn2 : 0 < n1ba := by have := HLK.out; have := HE1ba.out; omega
      have hz1 : (0 : Int) < (n3a : Int) := by omega
      have hz2 : (0 : Int) < (n1ba : Int) := by omega
      have hyy : (y0 == y0) = true := by simp
      have hqq : (q18 == q18) = true := by simp
      have zc := HZ3.out.cell (i := 0) rfl
      have zd := HZ2.out.cell (i := 0) rfl
      have HCC : Hid (∀ w', Below u19.heap.size u19 w' → w'.cell? ⟨u3.heap.size, 0, none⟩ = some (.slice (some ⟨ca, co, none⟩) n3a c3a) ∧ w'.cell? ⟨u1.heap.size + 1, 0, none⟩ = some (.slice (some ⟨da, dd, none⟩) n1ba c1ba) ∧ w'.cell? ⟨ca, co, none⟩ = some (.int .i64 y0) ∧ w'.cell? ⟨da, dd, none⟩ = some (.int .i64 y0)) := fun w' h => ⟨box_at zc h, box_at zd h, box_at yc h, box_at yd h⟩
      clear zc zd yc yd
      refine wp_region_noPanic ?_
      refine wp_region_V (fun w' => w'.cell? ⟨u3.heap.size, 0, none⟩ = some (.slice (some ⟨ca, co, none⟩) n3a c3a) ∧ w'.cell? ⟨u1.heap.size + 1, 0, none⟩ = some (.slice (some ⟨da, dd, none⟩) n1ba c1ba) ∧ w'.cell? ⟨ca, co, none⟩ = some (.int .i64 y0) ∧ w'.cell? ⟨da, dd, none⟩ = some (.int .i64 y0)) 23 20 (.rd 0 (.rd 1 (.rd 2 (.rd 3 (.rd 4 (.rd 5 (.rd 6 (.rd 7 (.rd 8 (.rd 9 (.rd 10 (.rd 11 (.rd 12 (.rd 13 (.rd 14 (.rd 15 (.rd 16 (.rd 17 (.rd 18 (.rd 19 .done)))))))))))))))))))) [20] (by kernel_rfl) (by kernel_rfl) rfl (fun _ _ _ _ _ h => h) (HCC.out _ (Below.refl _ _).drew) ?_
      simp only [pickV, pickN, List.getElem?_cons_zero, List.getElem?_cons_succ]
      repeat (refine' wpV_read _ (by kernel_rfl) (fun w' hS' => ?_) ?_; rotate_left; · ((try dsimp only at hS'); go_simp; (try with_reducible rfl)); (try simp only [Act.put, List.setIfInBounds_toArray, List.set_cons_zero, List.set_cons_succ]))
      have hbd : Below u19.heap.size u19 u19.drew := (Below.refl _ _).drew
      refine wpV_done ?_
      go_wp2_with fail
      refine NoPanic.normal ?_
      go_wp2_with fail
      go_ret
      exact ⟨rfl, Below.next HB.out hbd⟩
  | true =>
    by_cases hin : x7c ≤ (n7bb : Int)
    · by_cases hcn : n7ba < n7bb
      · have d1 : decide (x7c ≤ (n7bb : Int)) = true := decide_eq_true hin
        have d2 : decide ((n7ba : Int) < (n7bb : Int)) = true := decide_eq_true (by omega)
        have d3 : decide (n7ba < n7bb) = true := decide_eq_true hcn
        obtain ⟨hi1, hvm, hmk⟩ := mk_facts Hq9.out HD9.out (show x7c ≤ ((l7bb).length : Int) by rw [HE7bb.out]; exact hin) (show (l7ba).length < (l7bb).length by rw [HE7bb.out, HE7ba.out]; exact hcn)
        have HVM := Lib.hid hvm
        have HMK := Lib.hid hmk
        clear hvm hmk
        have z_0_0 := HZ1.out.cell (i := 0) rfl
        have z_0_1 := HZ1.out.cell (i := 1) rfl
        have z_0_2 := HZ1.out.cell (i := 2) rfl
        have z_1_0 := HZ2.out.cell (i := 0) rfl
        have z_1_1 := HZ2.out.cell (i := 1) rfl
        have z_2_0 := HZ3.out.cell (i := 0) rfl
        have z_2_1 := HZ3.out.cell (i := 1) rfl
        have z_3_0 := HZ4.out.cell (i := 0) rfl
        have z_3_1 := HZ4.out.cell (i := 1) rfl
        have z_4_0 := HZ5.out.cell (i := 0) rfl
        have z_4_1 := HZ5.out.cell (i := 1) rfl
        have z_4_2 := HZ5.out.cell (i := 2) rfl
        have z_5_0 := HZ6.out.cell (i := 0) rfl
        have z_5_1 := HZ6.out.cell (i := 1) rfl
        have z_6_0 := HZ7.out.cell (i := 0) rfl
        have z_6_1 := HZ7.out.cell (i := 1) rfl
        have z_7_0 := HZ8.out.cell (i := 0) rfl
        have z_7_1 := HZ8.out.cell (i := 1) rfl
        try (go_wp2_with fail)
        clear z_0_0 z_0_1 z_0_2 z_1_0 z_1_1 z_2_0 z_2_1 z_3_0 z_3_1 z_4_0 z_4_1 z_4_2 z_5_0 z_5_1 z_6_0 z_6_1 z_7_0 z_7_1
        refine (impl_IsRightKey ⟨P7a, Q7a, G7a⟩ _ ⟨l7ba, l7bb⟩ _ (DlR.mk HL7ba.out HL7bb.out)).mono ?_
        rintro e u18 ⟨rfl, hb⟩
        rw [HVM.out, Bool.true_and]
        obtain ⟨q18, hq18⟩ : ∃ r, decide ((badE ⟨P7a, Q7a, G7a⟩ ⟨l7ba, l7bb⟩).length = 0) = r := ⟨_, rfl⟩
        have Hq18 := Lib.hid hq18
        rw [hq18]
        clear hq18
        replace HB := Lib.hid (Below.next HB.out hb)
        replace HZ1 := Lib.hid (HZ1.out.below hb)
        replace HZ2 := Lib.hid (HZ2.out.below hb)
        replace HZ3 := Lib.hid (HZ3.out.below hb)
        replace HZ4 := Lib.hid (HZ4.out.below hb)
        replace HZ5 := Lib.hid (HZ5.out.below hb)
        replace HZ6 := Lib.hid (HZ6.out.below hb)
        replace HZ7 := Lib.hid (HZ7.out.below hb)
        replace HZ8 := Lib.hid (HZ8.out.below hb)
        replace HL1ba := Lib.hid (HL1ba.out.below hb)
        replace HL1bb := Lib.hid (HL1bb.out.below hb)
        replace HL1c := Lib.hid (HL1c.out.below hb)
        replace HL3a := Lib.hid (HL3a.out.below hb)
        replace HL3b := Lib.hid (HL3b.out.below hb)
        replace HL3l := Lib.hid (HL3l.out.below hb)
        replace HL5a := Lib.hid (HL5a.out.below hb)
        replace HL5b := Lib.hid (HL5b.out.below hb)
        replace HL5l := Lib.hid (HL5l.out.below hb)
        replace HL7ba := Lib.hid (HL7ba.out.below hb)
        replace HL7bb := Lib.hid (HL7bb.out.below hb)
        replace HL7d := Lib.hid (HL7d.out.below hb)
        replace HL9a := Lib.hid (HL9a.out.below hb)
        replace HL9b := Lib.hid (HL9b.out.below hb)
        replace HL11a := Lib.hid (HL11a.out.below hb)
        replace HL11b := Lib.hid (HL11b.out.below hb)
        clear hb
        have z_0_0 := HZ1.out.cell (i := 0) rfl
        have z_0_1 := HZ1.out.cell (i := 1) rfl
        have z_0_2 := HZ1.out.cell (i := 2) rfl
        have z_1_0 := HZ2.out.cell (i := 0) rfl
        have z_1_1 := HZ2.out.cell (i := 1) rfl
        have z_2_0 := HZ3.out.cell (i := 0) rfl
        have z_2_1 := HZ3.out.cell (i := 1) rfl
        have z_3_0 := HZ4.out.cell (i := 0) rfl
        have z_3_1 := HZ4.out.cell (i := 1) rfl
        have z_4_0 := HZ5.out.cell (i := 0) rfl
        have z_4_1 := HZ5.out.cell (i := 1) rfl
        have z_4_2 := HZ5.out.cell (i := 2) rfl
        have z_5_0 := HZ6.out.cell (i := 0) rfl
        have z_5_1 := HZ6.out.cell (i := 1) rfl
        have z_6_0 := HZ7.out.cell (i := 0) rfl
        have z_6_1 := HZ7.out.cell (i := 1) rfl
        have z_7_0 := HZ8.out.cell (i := 0) rfl
        have z_7_1 := HZ8.out.cell (i := 1) rfl
        try (go_wp2_with fail)
        clear z_0_0 z_0_1 z_0_2 z_1_0 z_1_1 z_2_0 z_2_1 z_3_0 z_3_1 z_4_0 z_4_1 z_4_2 z_5_0 z_5_1 z_6_0 z_6_1 z_7_0 z_7_1
        refine (impl_RecoverMasked ⟨P7a, Q7a, G7a⟩ _ D9 x7c 0 _ (DlR.mk HL9a.out HL9b.out) ⟨by omega, by omega⟩).mono ?_
        rintro e u19 ⟨rfl, hb⟩
        obtain ⟨r19a, hr19a⟩ : ∃ r, rmR ⟨P7a, Q7a, G7a⟩ D9 x7c 0 = r := ⟨_, rfl⟩
        have Hr19a := Lib.hid hr19a
        rw [hr19a]
        clear hr19a
        obtain ⟨q19b, hq19b⟩ : ∃ r, rmB ⟨P7a, Q7a, G7a⟩ D9 x7c 0 = r := ⟨_, rfl⟩
        have Hq19b := Lib.hid hq19b
        rw [hq19b]
        clear hq19b
        replace HB := Lib.hid (Below.next HB.out hb)
        replace HZ1 := Lib.hid (HZ1.out.below hb)
        replace HZ2 := Lib.hid (HZ2.out.below hb)
        replace HZ3 := Lib.hid (HZ3.out.below hb)
        replace HZ4 := Lib.hid (HZ4.out.below hb)
        replace HZ5 := Lib.hid (HZ5.out.below hb)
        replace HZ6 := Lib.hid (HZ6.out.below hb)
        replace HZ7 := Lib.hid (HZ7.out.below hb)
        replace HZ8 := Lib.hid (HZ8.out.below hb)
        replace HL1ba := Lib.hid (HL1ba.out.below hb)
        replace HL1bb := Lib.hid (HL1bb.out.below hb)
        replace HL1c := Lib.hid (HL1c.out.below hb)
        replace HL3a := Lib.hid (HL3a.out.below hb)
        replace HL3b := Lib.hid (HL3b.out.below hb)
        replace HL3l := Lib.hid (HL3l.out.below hb)
        replace HL5a := Lib.hid (HL5a.out.below hb)
        replace HL5b := Lib.hid (HL5b.out.below hb)
        replace HL5l := Lib.hid (HL5l.out.below hb)
        replace HL7ba := Lib.hid (HL7ba.out.below hb)
        replace HL7bb := Lib.hid (HL7bb.out.below hb)
        replace HL7d := Lib.hid (HL7d.out.below hb)
        replace HL9a := Lib.hid (HL9a.out.below hb)
        replace HL9b := Lib.hid (HL9b.out.below hb)
        replace HL11a := Lib.hid (HL11a.out.below hb)
        replace HL11b := Lib.hid (HL11b.out.below hb)
        clear hb
        cases q18 with
        | false =>
          cases q3 with
          | false =>
            have z_0_0 := HZ1.out.cell (i := 0) rfl
            have z_0_1 := HZ1.out.cell (i := 1) rfl
            have z_0_2 := HZ1.out.cell (i := 2) rfl
            have z_1_0 := HZ2.out.cell (i := 0) rfl
            have z_1_1 := HZ2.out.cell (i := 1) rfl
            have z_2_0 := HZ3.out.cell (i := 0) rfl
            have z_2_1 := HZ3.out.cell (i := 1) rfl
            have z_3_0 := HZ4.out.cell (i := 0) rfl
            have z_3_1 := HZ4.out.cell (i := 1) rfl
            have z_4_0 := HZ5.out.cell (i := 0) rfl
            have z_4_1 := HZ5.out.cell (i := 1) rfl
            have z_4_2 := HZ5.out.cell (i := 2) rfl
            have z_5_0 := HZ6.out.cell (i := 0) rfl
            have z_5_1 := HZ6.out.cell (i := 1) rfl
            have z_6_0 := HZ7.out.cell (i := 0) rfl
            have z_6_1 := HZ7.out.cell (i := 1) rfl
            have z_7_0 := HZ8.out.cell (i := 0) rfl
            have z_7_1 := HZ8.out.cell (i := 1) rfl
            try (go_wp2_with fail)
            clear z_0_0 z_0_1 z_0_2 z_1_0 z_1_1 z_2_0 z_2_1 z_3_0 z_3_1 z_4_0 z_4_1 z_4_2 z_5_0 z_5_1 z_6_0 z_6_1 z_7_0 z_7_1
            go_ret
            exact ⟨rfl, HB.out⟩
          | true =>
            obtain ⟨t1, t2, t3, t4, t5, t6⟩ := rf_facts Hq3.out HD3.out
            have HVK := Lib.hid t1
            have HVD := Lib.hid t2
            have HBE := Lib.hid t3
            have HLD : Hid (0 < (D3).c.length) := t5
            have HLK : Hid (0 < (l1ba).length) := t6
            obtain ⟨y0, hy0⟩ : ∃ y, nth l1ba 0 = y := ⟨_, rfl⟩
            have Hy0 := Lib.hid hy0
            have Hy1 : Hid (nth D3.c 0 = y0) := by unfold Hid; rw [t4]; exact hy0
            clear t1 t2 t3 t4 t5 t6 hy0
            have z_0_0 := HZ1.out.cell (i := 0) rfl
            have z_0_1 := HZ1.out.cell (i := 1) rfl
            have z_0_2 := HZ1.out.cell (i := 2) rfl
            have z_1_0 := HZ2.out.cell (i := 0) rfl
            have z_1_1 := HZ2.out.cell (i := 1) rfl
            have z_2_0 := HZ3.out.cell (i := 0) rfl
            have z_2_1 := HZ3.out.cell (i := 1) rfl
            have z_3_0 := HZ4.out.cell (i := 0) rfl
            have z_3_1 := HZ4.out.cell (i := 1) rfl
            have z_4_0 := HZ5.out.cell (i := 0) rfl
            have z_4_1 := HZ5.out.cell (i := 1) rfl
            have z_4_2 := HZ5.out.cell (i := 2) rfl
            have z_5_0 := HZ6.out.cell (i := 0) rfl
            have z_5_1 := HZ6.out.cell (i := 1) rfl
            have z_6_0 := HZ7.out.cell (i := 0) rfl
            have z_6_1 := HZ7.out.cell (i := 1) rfl
            have z_7_0 := HZ8.out.cell (i := 0) rfl
            have z_7_1 := HZ8.out.cell (i := 1) rfl
            try (go_wp2_with fail)
            clear z_0_0 z_0_1 z_0_2 z_1_0 z_1_1 z_2_0 z_2_1 z_3_0 z_3_1 z_4_0 z_4_1 z_4_2 z_5_0 z_5_1 z_6_0 z_6_1 z_7_0 z_7_1
            refine (impl_IsRightKey ⟨P1a, Q1a, G1a⟩ _ ⟨l1ba, l1bb⟩ _ (DlR.mk HL1ba.out HL1bb.out)).mono ?_
            rintro e u20 ⟨rfl, hb⟩
            rw [HVK.out, Bool.true_and]
            obtain ⟨q20, hq20⟩ : ∃ r, decide ((badE ⟨P1a, Q1a, G1a⟩ ⟨l1ba, l1bb⟩).length = 0) = r := ⟨_, rfl⟩
            have Hq20 := Lib.hid hq20
            rw [hq20]
            clear hq20
            replace HB := Lib.hid (Below.next HB.out hb)
            replace HZ1 := Lib.hid (HZ1.out.below hb)
            replace HZ2 := Lib.hid (HZ2.out.below hb)
            replace HZ3 := Lib.hid (HZ3.out.below hb)
            replace HZ4 := Lib.hid (HZ4.out.below hb)
            replace HZ5 := Lib.hid (HZ5.out.below hb)
            replace HZ6 := Lib.hid (HZ6.out.below hb)
            replace HZ7 := Lib.hid (HZ7.out.below hb)
            replace HZ8 := Lib.hid (HZ8.out.below hb)
            replace HL1ba := Lib.hid (HL1ba.out.below hb)
            replace HL1bb := Lib.hid (HL1bb.out.below hb)
            replace HL1c := Lib.hid (HL1c.out.below hb)
            replace HL3a := Lib.hid (HL3a.out.below hb)
            replace HL3b := Lib.hid (HL3b.out.below hb)
            replace HL3l := Lib.hid (HL3l.out.below hb)
            replace HL5a := Lib.hid (HL5a.out.below hb)
            replace HL5b := Lib.hid (HL5b.out.below hb)
            replace HL5l := Lib.hid (HL5l.out.below hb)
            replace HL7ba := Lib.hid (HL7ba.out.below hb)
            replace HL7bb := Lib.hid (HL7bb.out.below hb)
            replace HL7d := Lib.hid (HL7d.out.below hb)
            replace HL9a := Lib.hid (HL9a.out.below hb)
            replace HL9b := Lib.hid (HL9b.out.below hb)
            replace HL11a := Lib.hid (HL11a.out.below hb)
            replace HL11b := Lib.hid (HL11b.out.below hb)
            clear hb
            have z_0_0 := HZ1.out.cell (i := 0) rfl
            have z_0_1 := HZ1.out.cell (i := 1) rfl
            have z_0_2 := HZ1.out.cell (i := 2) rfl
            have z_1_0 := HZ2.out.cell (i := 0) rfl
            have z_1_1 := HZ2.out.cell (i := 1) rfl
            have z_2_0 := HZ3.out.cell (i := 0) rfl
            have z_2_1 := HZ3.out.cell (i := 1) rfl
            have z_3_0 := HZ4.out.cell (i := 0) rfl
            have z_3_1 := HZ4.out.cell (i := 1) rfl
            have z_4_0 := HZ5.out.cell (i := 0) rfl
            have z_4_1 := HZ5.out.cell (i := 1) rfl
            have z_4_2 := HZ5.out.cell (i := 2) rfl
            have z_5_0 := HZ6.out.cell (i := 0) rfl
            have z_5_1 := HZ6.out.cell (i := 1) rfl
            have z_6_0 := HZ7.out.cell (i := 0) rfl
            have z_6_1 := HZ7.out.cell (i := 1) rfl
            have z_7_0 := HZ8.out.cell (i := 0) rfl
            have z_7_1 := HZ8.out.cell (i := 1) rfl
            try (go_wp2_with fail)
            clear z_0_0 z_0_1 z_0_2 z_1_0 z_1_1 z_2_0 z_2_1 z_3_0 z_3_1 z_4_0 z_4_1 z_4_2 z_5_0 z_5_1 z_6_0 z_6_1 z_7_0 z_7_1
            refine (impl_IsRightKey ⟨P1a, Q1a, G1a⟩ _ D3 _ (DlR.mk HL3a.out HL3b.out)).mono ?_
            rintro e u21 ⟨rfl, hb⟩
            rw [HVD.out, Bool.true_and, HBE.out]
            rw [Hq20.out]
            replace HB := Lib.hid (Below.next HB.out hb)
            replace HZ1 := Lib.hid (HZ1.out.below hb)
            replace HZ2 := Lib.hid (HZ2.out.below hb)
            replace HZ3 := Lib.hid (HZ3.out.below hb)
            replace HZ4 := Lib.hid (HZ4.out.below hb)
            replace HZ5 := Lib.hid (HZ5.out.below hb)
            replace HZ6 := Lib.hid (HZ6.out.below hb)
            replace HZ7 := Lib.hid (HZ7.out.below hb)
            replace HZ8 := Lib.hid (HZ8.out.below hb)
            replace HL1ba := Lib.hid (HL1ba.out.below hb)
            replace HL1bb := Lib.hid (HL1bb.out.below hb)
            replace HL1c := Lib.hid (HL1c.out.below hb)
            replace HL3a := Lib.hid (HL3a.out.below hb)
            replace HL3b := Lib.hid (HL3b.out.below hb)
            replace HL3l := Lib.hid (HL3l.out.below hb)
            replace HL5a := Lib.hid (HL5a.out.below hb)
            replace HL5b := Lib.hid (HL5b.out.below hb)
            replace HL5l := Lib.hid (HL5l.out.below hb)
            replace HL7ba := Lib.hid (HL7ba.out.below hb)
            replace HL7bb := Lib.hid (HL7bb.out.below hb)
            replace HL7d := Lib.hid (HL7d.out.below hb)
            replace HL9a := Lib.hid (HL9a.out.below hb)
            replace HL9b := Lib.hid (HL9b.out.below hb)
            replace HL11a := Lib.hid (HL11a.out.below hb)
            replace HL11b := Lib.hid (HL11b.out.below hb)
            clear hb
            have z_0_0 := HZ1.out.cell (i := 0) rfl
            have z_0_1 := HZ1.out.cell (i := 1) rfl
            have z_0_2 := HZ1.out.cell (i := 2) rfl
            have z_1_0 := HZ2.out.cell (i := 0) rfl
            have z_1_1 := HZ2.out.cell (i := 1) rfl
            have z_2_0 := HZ3.out.cell (i := 0) rfl
            have z_2_1 := HZ3.out.cell (i := 1) rfl
            have z_3_0 := HZ4.out.cell (i := 0) rfl
            have z_3_1 := HZ4.out.cell (i := 1) rfl
            have z_4_0 := HZ5.out.cell (i := 0) rfl
            have z_4_1 := HZ5.out.cell (i := 1) rfl
            have z_4_2 := HZ5.out.cell (i := 2) rfl
            have z_5_0 := HZ6.out.cell (i := 0) rfl
            have z_5_1 := HZ6.out.cell (i := 1) rfl
            have z_6_0 := HZ7.out.cell (i := 0) rfl
            have z_6_1 := HZ7.out.cell (i := 1) rfl
            have z_7_0 := HZ8.out.cell (i := 0) rfl
            have z_7_1 := HZ8.out.cell (i := 1) rfl
            go_wp2_with fail
            clear z_0_0 z_0_1 z_0_2 z_1_0 z_1_1 z_2_0 z_2_1 z_3_0 z_3_1 z_4_0 z_4_1 z_4_2 z_5_0 z_5_1 z_6_0 z_6_1 z_7_0 z_7_1
            obtain ⟨ca, co, hca, hcp⟩ := HL3a.out.at_ (by have := HLD.out; have := HE3a.out; omega)
            have yc := hcp 0 (by have := HLD.out; have := HE3a.out; omega)
            rw [Hy1.out, Nat.add_zero] at yc
            have hca' := hca
            subst hca'
            clear hca hcp
            obtain ⟨da, dd, hda, hdp⟩ := HL1ba.out.at_ (by have := HLK.out; have := HE1ba.out; omega)
            have yd := hdp 0 (by have := HLK.out; have := HE1ba.out; omega)
            rw [Hy0.out, Nat.add_zero] at yd
            have hda' := hda
            subst hda'
            clear hda hdp
            have hn1 : 0 < n3a := by have := HLD.out; have := HE3a.out; omega
            have hn2 : 0 < n1ba := by have := HLK.out; have := HE1ba.out; omega
            have hz1 : (0 : Int) < (n3a : Int) := by omega
            have hz2 : (0 : Int) < (n1ba : Int) := by omega
            have hyy : (y0 == y0) = true := by simp
            have hqq : (q20 == q20) = true := by simp
            have zc := HZ3.out.cell (i := 0) rfl
            have zd := HZ2.out.cell (i := 0) rfl
            have HCC : Hid (∀ w', Below u21.heap.size u21 w' → w'.cell? ⟨u3.heap.size, 0, none⟩ = some (.slice (some ⟨ca, co, none⟩) n3a c3a) ∧ w'.cell? ⟨u1.heap.size + 1, 0, none⟩ = some (.slice (some ⟨da, dd, none⟩) n1ba c1ba) ∧ w'.cell? ⟨ca, co, none⟩ = some (.int .i64 y0) ∧ w'.cell? ⟨da, dd, none⟩ = some (.int .i64 y0)) := fun w' h => ⟨box_at zc h, box_at zd h, box_at yc h, box_at yd h⟩
            clear zc zd yc yd
            refine wp_region_noPanic ?_
            refine wp_region_V (fun w' => w'.cell? ⟨u3.heap.size, 0, none⟩ = some (.slice (some ⟨ca, co, none⟩) n3a c3a) ∧ w'.cell? ⟨u1.heap.size + 1, 0, none⟩ = some (.slice (some ⟨da, dd, none⟩) n1ba c1ba) ∧ w'.cell? ⟨ca, co, none⟩ = some (.int .i64 y0) ∧ w'.cell? ⟨da, dd, none⟩ = some (.int .i64 y0)) 23 20 (.rd 0 (.rd 1 (.rd 2 (.rd 3 (.rd 4 (.rd 5 (.rd 6 (.rd 7 (.rd 8 (.rd 9 (.rd 10 (.rd 11 (.rd 12 (.rd 13 (.rd 14 (.rd 15 (.rd 16 (.rd 17 (.rd 18 (.rd 19 .done)))))))))))))))))))) [20] (by kernel_rfl) (by kernel_rfl) rfl (fun _ _ _ _ _ h => h) (HCC.out _ (Below.refl _ _).drew) ?_
            simp only [pickV, pickN, List.getElem?_cons_zero, List.getElem?_cons_succ]
            repeat (refine' wpV_read _ (by kernel_rfl) (fun w' hS' => ?_) ?_; rotate_left; · ((try dsimp only at hS'); go_simp; (try with_reducible rfl)); (try simp only [Act.put, List.setIfInBounds_toArray, List.set_cons_zero, List.set_cons_succ]))
            have hbd : Below u21.heap.size u21 u21.drew := (Below.refl _ _).drew
            refine wpV_done ?_
            go_wp2_with fail
            refine NoPanic.normal ?_
            go_wp2_with fail
            go_ret
            exact ⟨rfl, Below.next HB.out hbd⟩
        | true =>
          obtain ⟨hm1, hm2⟩ := HMK.out Hq18.out
          rw [Hq19b.out] at hm1
          rw [Hr19a.out] at hm2
          rw [show (x7c - 1).toNat = x7c.toNat - 1 by omega] at hm2
          have hjn : x7c.toNat - 1 < n7bb := by omega
          obtain ⟨sb, so, hsa, hpc⟩ := HL7bb.out.at_ (by omega)
          have ys := hpc _ hjn
          have hsa' := hsa
          subst hsa'
          clear hsa hpc
          have hj1 : 0 ≤ x7c - 1 := by omega
          have hj2 : x7c - 1 < (n7bb : Int) := by omega
          have ewi : IntKind.i64.wrap (x7c - 1) = x7c - 1 := IntWalk.i64_in _ (by omega)
          rw [← hm2] at ys
          have hm1' := hm1
          subst hm1'
          have hrr : (r19a == r19a) = true := by simp
          have hrn : (r19a != r19a) = false := by simp
          clear hm1 hm2
          cases q3 with
          | false =>
            have z_0_0 := HZ1.out.cell (i := 0) rfl
            have z_0_1 := HZ1.out.cell (i := 1) rfl
            have z_0_2 := HZ1.out.cell (i := 2) rfl
            have z_1_0 := HZ2.out.cell (i := 0) rfl
            have z_1_1 := HZ2.out.cell (i := 1) rfl
            have z_2_0 := HZ3.out.cell (i := 0) rfl
            have z_2_1 := HZ3.out.cell (i := 1) rfl
            have z_3_0 := HZ4.out.cell (i := 0) rfl
            have z_3_1 := HZ4.out.cell (i := 1) rfl
            have z_4_0 := HZ5.out.cell (i := 0) rfl
            have z_4_1 := HZ5.out.cell (i := 1) rfl
            have z_4_2 := HZ5.out.cell (i := 2) rfl
            have z_5_0 := HZ6.out.cell (i := 0) rfl
            have z_5_1 := HZ6.out.cell (i := 1) rfl
            have z_6_0 := HZ7.out.cell (i := 0) rfl
            have z_6_1 := HZ7.out.cell (i := 1) rfl
            have z_7_0 := HZ8.out.cell (i := 0) rfl
            have z_7_1 := HZ8.out.cell (i := 1) rfl
            try (go_wp2_with fail)
            clear z_0_0 z_0_1 z_0_2 z_1_0 z_1_1 z_2_0 z_2_1 z_3_0 z_3_1 z_4_0 z_4_1 z_4_2 z_5_0 z_5_1 z_6_0 z_6_1 z_7_0 z_7_1
            go_ret
            exact ⟨rfl, HB.out⟩
          | true =>
            obtain ⟨t1, t2, t3, t4, t5, t6⟩ := rf_facts Hq3.out HD3.out
            have HVK := Lib.hid t1
            have HVD := Lib.hid t2
            have HBE := Lib.hid t3
            have HLD : Hid (0 < (D3).c.length) := t5
            have HLK : Hid (0 < (l1ba).length) := t6
            obtain ⟨y0, hy0⟩ : ∃ y, nth l1ba 0 = y := ⟨_, rfl⟩
            have Hy0 := Lib.hid hy0
            have Hy1 : Hid (nth D3.c 0 = y0) := by unfold Hid; rw [t4]; exact hy0
            clear t1 t2 t3 t4 t5 t6 hy0
            have z_0_0 := HZ1.out.cell (i := 0) rfl
            have z_0_1 := HZ1.out.cell (i := 1) rfl
            have z_0_2 := HZ1.out.cell (i := 2) rfl
            have z_1_0 := HZ2.out.cell (i := 0) rfl
            have z_1_1 := HZ2.out.cell (i := 1) rfl
            have z_2_0 := HZ3.out.cell (i := 0) rfl
            have z_2_1 := HZ3.out.cell (i := 1) rfl
            have z_3_0 := HZ4.out.cell (i := 0) rfl
            have z_3_1 := HZ4.out.cell (i := 1) rfl
            have z_4_0 := HZ5.out.cell (i := 0) rfl
            have z_4_1 := HZ5.out.cell (i := 1) rfl
            have z_4_2 := HZ5.out.cell (i := 2) rfl
            have z_5_0 := HZ6.out.cell (i := 0) rfl
            have z_5_1 := HZ6.out.cell (i := 1) rfl
            have z_6_0 := HZ7.out.cell (i := 0) rfl
            have z_6_1 := HZ7.out.cell (i := 1) rfl
            have z_7_0 := HZ8.out.cell (i := 0) rfl
            have z_7_1 := HZ8.out.cell (i := 1) rfl
            try (go_wp2_with fail)
            clear z_0_0 z_0_1 z_0_2 z_1_0 z_1_1 z_2_0 z_2_1 z_3_0 z_3_1 z_4_0 z_4_1 z_4_2 z_5_0 z_5_1 z_6_0 z_6_1 z_7_0 z_7_1
            refine (impl_IsRightKey ⟨P1a, Q1a, G1a⟩ _ ⟨l1ba, l1bb⟩ _ (DlR.mk HL1ba.out HL1bb.out)).mono ?_
            rintro e u20 ⟨rfl, hb⟩
            rw [HVK.out, Bool.true_and]
            obtain ⟨q20, hq20⟩ : ∃ r, decide ((badE ⟨P1a, Q1a, G1a⟩ ⟨l1ba, l1bb⟩).length = 0) = r := ⟨_, rfl⟩
            have Hq20 := Lib.hid hq20
            rw [hq20]
            clear hq20
            replace HB := Lib.hid (Below.next HB.out hb)
            replace HZ1 := Lib.hid (HZ1.out.below hb)
            replace HZ2 := Lib.hid (HZ2.out.below hb)
            replace HZ3 := Lib.hid (HZ3.out.below hb)
            replace HZ4 := Lib.hid (HZ4.out.below hb)
            replace HZ5 := Lib.hid (HZ5.out.below hb)
            replace HZ6 := Lib.hid (HZ6.out.below hb)
            replace HZ7 := Lib.hid (HZ7.out.below hb)
            replace HZ8 := Lib.hid (HZ8.out.below hb)
            replace HL1ba := Lib.hid (HL1ba.out.below hb)
            replace HL1bb := Lib.hid (HL1bb.out.below hb)
            replace HL1c := Lib.hid (HL1c.out.below hb)
            replace HL3a := Lib.hid (HL3a.out.below hb)
            replace HL3b := Lib.hid (HL3b.out.below hb)
            replace HL3l := Lib.hid (HL3l.out.below hb)
            replace HL5a := Lib.hid (HL5a.out.below hb)
            replace HL5b := Lib.hid (HL5b.out.below hb)
            replace HL5l := Lib.hid (HL5l.out.below hb)
            replace HL7ba := Lib.hid (HL7ba.out.below hb)
            replace HL7bb := Lib.hid (HL7bb.out.below hb)
            replace HL7d := Lib.hid (HL7d.out.below hb)
            replace HL9a := Lib.hid (HL9a.out.below hb)
            replace HL9b := Lib.hid (HL9b.out.below hb)
            replace HL11a := Lib.hid (HL11a.out.below hb)
            replace HL11b := Lib.hid (HL11b.out.below hb)
            clear hb
            have z_0_0 := HZ1.out.cell (i := 0) rfl
            have z_0_1 := HZ1.out.cell (i := 1) rfl
            have z_0_2 := HZ1.out.cell (i := 2) rfl
            have z_1_0 := HZ2.out.cell (i := 0) rfl
            have z_1_1 := HZ2.out.cell (i := 1) rfl
            have z_2_0 := HZ3.out.cell (i := 0) rfl
            have z_2_1 := HZ3.out.cell (i := 1) rfl
            have z_3_0 := HZ4.out.cell (i := 0) rfl
            have z_3_1 := HZ4.out.cell (i := 1) rfl
            have z_4_0 := HZ5.out.cell (i := 0) rfl
            have z_4_1 := HZ5.out.cell (i := 1) rfl
            have z_4_2 := HZ5.out.cell (i := 2) rfl
            have z_5_0 := HZ6.out.cell (i := 0) rfl
            have z_5_1 := HZ6.out.cell (i := 1) rfl
            have z_6_0 := HZ7.out.cell (i := 0) rfl
            have z_6_1 := HZ7.out.cell (i := 1) rfl
            have z_7_0 := HZ8.out.cell (i := 0) rfl
            have z_7_1 := HZ8.out.cell (i := 1) rfl
            try (go_wp2_with fail)
            clear z_0_0 z_0_1 z_0_2 z_1_0 z_1_1 z_2_0 z_2_1 z_3_0 z_3_1 z_4_0 z_4_1 z_4_2 z_5_0 z_5_1 z_6_0 z_6_1 z_7_0 z_7_1
            refine (impl_IsRightKey ⟨P1a, Q1a, G1a⟩ _ D3 _ (DlR.mk HL3a.out HL3b.out)).mono ?_
            rintro e u21 ⟨rfl, hb⟩
            rw [HVD.out, Bool.true_and, HBE.out]
            rw [Hq20.out]
            replace HB := Lib.hid (Below.next HB.out hb)
            replace HZ1 := Lib.hid (HZ1.out.below hb)
            replace HZ2 := Lib.hid (HZ2.out.below hb)
            replace HZ3 := Lib.hid (HZ3.out.below hb)
            replace HZ4 := Lib.hid (HZ4.out.below hb)
            replace HZ5 := Lib.hid (HZ5.out.below hb)
            replace HZ6 := Lib.hid (HZ6.out.below hb)
            replace HZ7 := Lib.hid (HZ7.out.below hb)
            replace HZ8 := Lib.hid (HZ8.out.below hb)
            replace HL1ba := Lib.hid (HL1ba.out.below hb)
            replace HL1bb := Lib.hid (HL1bb.out.below hb)
            replace HL1c := Lib.hid (HL1c.out.below hb)
            replace HL3a := Lib.hid (HL3a.out.below hb)
            replace HL3b := Lib.hid (HL3b.out.below hb)
            replace HL3l := Lib.hid (HL3l.out.below hb)
            replace HL5a := Lib.hid (HL5a.out.below hb)
            replace HL5b := Lib.hid (HL5b.out.below hb)
            replace HL5l := Lib.hid (HL5l.out.below hb)
            replace HL7ba := Lib.hid (HL7ba.out.below hb)
            replace HL7bb := Lib.hid (HL7bb.out.below hb)
            replace HL7d := Lib.hid (HL7d.out.below hb)
            replace HL9a := Lib.hid (HL9a.out.below hb)
            replace HL9b := Lib.hid (HL9b.out.below hb)
            replace HL11a := Lib.hid (HL11a.out.below hb)
            replace HL11b := Lib.hid (HL11b.out.below hb)
            clear hb
            have z_0_0 := HZ1.out.cell (i := 0) rfl
            have z_0_1 := HZ1.out.cell (i := 1) rfl
            have z_0_2 := HZ1.out.cell (i := 2) rfl
            have z_1_0 := HZ2.out.cell (i := 0) rfl
            have z_1_1 := HZ2.out.cell (i := 1) rfl
            have z_2_0 := HZ3.out.cell (i := 0) rfl
            have z_2_1 := HZ3.out.cell (i := 1) rfl
            have z_3_0 := HZ4.out.cell (i := 0) rfl
            have z_3_1 := HZ4.out.cell (i := 1) rfl
            have z_4_0 := HZ5.out.cell (i := 0) rfl
            have z_4_1 := HZ5.out.cell (i := 1) rfl
            have z_4_2 := HZ5.out.cell (i := 2) rfl
            have z_5_0 := HZ6.out.cell (i := 0) rfl
            have z_5_1 := HZ6.out.cell (i := 1) rfl
            have z_6_0 := HZ7.out.cell (i := 0) rfl
            have z_6_1 := HZ7.out.cell (i := 1) rfl
            have z_7_0 := HZ8.out.cell (i := 0) rfl
            have z_7_1 := HZ8.out.cell (i := 1) rfl
            go_wp2_with fail
            clear z_0_0 z_0_1 z_0_2 z_1_0 z_1_1 z_2_0 z_2_1 z_3_0 z_3_1 z_4_0 z_4_1 z_4_2 z_5_0 z_5_1 z_6_0 z_6_1 z_7_0 z_7_1
            obtain ⟨ca, co, hca, hcp⟩ := HL3a.out.at_ (by have := HLD.out; have := HE3a.out; omega)
            have yc := hcp 0 (by have := HLD.out; have := HE3a.out; omega)
            rw [Hy1.out, Nat.add_zero] at yc
            have hca' := hca
            subst hca'
            clear hca hcp
            obtain ⟨da, dd, hda, hdp⟩ := HL1ba.out.at_ (by have := HLK.out; have := HE1ba.out; omega)
            have yd := hdp 0 (by have := HLK.out; have := HE1ba.out; omega)
            rw [Hy0.out, Nat.add_zero] at yd
            have hda' := hda
            subst hda'
            clear hda hdp
            have hn1 : 0 < n3a := by have := HLD.out; have := HE3a.out; omega
            have hn2 : 0 < n1ba := by have := HLK.out; have := HE1ba.out; omega
            have hz1 : (0 : Int) < (n3a : Int) := by omega
            have hz2 : (0 : Int) < (n1ba : Int) := by omega
            have hyy : (y0 == y0) = true := by simp
            have hqq : (q20 == q20) = true := by simp
            have zc := HZ3.out.cell (i := 0) rfl
            have zd := HZ2.out.cell (i := 0) rfl
            have HCC : Hid (∀ w', Below u21.heap.size u21 w' → w'.cell? ⟨u3.heap.size, 0, none⟩ = some (.slice (some ⟨ca, co, none⟩) n3a c3a) ∧ w'.cell? ⟨u1.heap.size + 1, 0, none⟩ = some (.slice (some ⟨da, dd, none⟩) n1ba c1ba) ∧ w'.cell? ⟨ca, co, none⟩ = some (.int .i64 y0) ∧ w'.cell? ⟨da, dd, none⟩ = some (.int .i64 y0)) := fun w' h => ⟨box_at zc h, box_at zd h, box_at yc h, box_at yd h⟩
            clear zc zd yc yd
            refine wp_region_noPanic ?_
            refine wp_region_V (fun w' => w'.cell? ⟨u3.heap.size, 0, none⟩ = some (.slice (some ⟨ca, co, none⟩) n3a c3a) ∧ w'.cell? ⟨u1.heap.size + 1, 0, none⟩ = some (.slice (some ⟨da, dd, none⟩) n1ba c1ba) ∧ w'.cell? ⟨ca, co, none⟩ = some (.int .i64 y0) ∧ w'.cell? ⟨da, dd, none⟩ = some (.int .i64 y0)) 23 20 (.rd 0 (.rd 1 (.rd 2 (.rd 3 (.rd 4 (.rd 5 (.rd 6 (.rd 7 (.rd 8 (.rd 9 (.rd 10 (.rd 11 (.rd 12 (.rd 13 (.rd 14 (.rd 15 (.rd 16 (.rd 17 (.rd 18 (.rd 19 .done)))))))))))))))))))) [20] (by kernel_rfl) (by kernel_rfl) rfl (fun _ _ _ _ _ h => h) (HCC.out _ (Below.refl _ _).drew) ?_
            simp only [pickV, pickN, List.getElem?_cons_zero, List.getElem?_cons_succ]
            repeat (refine' wpV_read _ (by kernel_rfl) (fun w' hS' => ?_) ?_; rotate_left; · ((try dsimp only at hS'); go_simp; (try with_reducible rfl)); (try simp only [Act.put, List.setIfInBounds_toArray, List.set_cons_zero, List.set_cons_succ]))
            have hbd : Below u21.heap.size u21 u21.drew := (Below.refl _ _).drew
            refine wpV_done ?_
            go_wp2_with fail
            refine NoPanic.normal ?_
            go_wp2_with fail
            go_ret
            exact ⟨rfl, Below.next HB.out hbd⟩
      · have d1 : decide (x7c ≤ (n7bb : Int)) = true := decide_eq_true hin
        have d2 : decide ((n7ba : Int) < (n7bb : Int)) = false := decide_eq_false (by omega)
        have d3 : decide (n7ba < n7bb) = false := decide_eq_false hcn
        cases q3 with
        | false =>
          have z_0_0 := HZ1.out.cell (i := 0) rfl
          have z_0_1 := HZ1.out.cell (i := 1) rfl
          have z_0_2 := HZ1.out.cell (i := 2) rfl
          have z_1_0 := HZ2.out.cell (i := 0) rfl
          have z_1_1 := HZ2.out.cell (i := 1) rfl
          have z_2_0 := HZ3.out.cell (i := 0) rfl
          have z_2_1 := HZ3.out.cell (i := 1) rfl
          have z_3_0 := HZ4.out.cell (i := 0) rfl
          have z_3_1 := HZ4.out.cell (i := 1) rfl
          have z_4_0 := HZ5.out.cell (i := 0) rfl
          have z_4_1 := HZ5.out.cell (i := 1) rfl
          have z_4_2 := HZ5.out.cell (i := 2) rfl
          have z_5_0 := HZ6.out.cell (i := 0) rfl
          have z_5_1 := HZ6.out.cell (i := 1) rfl
          have z_6_0 := HZ7.out.cell (i := 0) rfl
          have z_6_1 := HZ7.out.cell (i := 1) rfl
          have z_7_0 := HZ8.out.cell (i := 0) rfl
          have z_7_1 := HZ8.out.cell (i := 1) rfl
          try (go_wp2_with fail)
          clear z_0_0 z_0_1 z_0_2 z_1_0 z_1_1 z_2_0 z_2_1 z_3_0 z_3_1 z_4_0 z_4_1 z_4_2 z_5_0 z_5_1 z_6_0 z_6_1 z_7_0 z_7_1
          go_ret
          exact ⟨rfl, HB.out⟩
        | true =>
          obtain ⟨t1, t2, t3, t4, t5, t6⟩ := rf_facts Hq3.out HD3.out
          have HVK := Lib.hid t1
          have HVD := Lib.hid t2
          have HBE := Lib.hid t3
          have HLD : Hid (0 < (D3).c.length) := t5
          have HLK : Hid (0 < (l1ba).length) := t6
          obtain ⟨y0, hy0⟩ : ∃ y, nth l1ba 0 = y := ⟨_, rfl⟩
          have Hy0 := Lib.hid hy0
          have Hy1 : Hid (nth D3.c 0 = y0) := by unfold Hid; rw [t4]; exact hy0
          clear t1 t2 t3 t4 t5 t6 hy0
          have z_0_0 := HZ1.out.cell (i := 0) rfl
          have z_0_1 := HZ1.out.cell (i := 1) rfl
          have z_0_2 := HZ1.out.cell (i := 2) rfl
          have z_1_0 := HZ2.out.cell (i := 0) rfl
          have z_1_1 := HZ2.out.cell (i := 1) rfl
          have z_2_0 := HZ3.out.cell (i := 0) rfl
          have z_2_1 := HZ3.out.cell (i := 1) rfl
          have z_3_0 := HZ4.out.cell (i := 0) rfl
          have z_3_1 := HZ4.out.cell (i := 1) rfl
          have z_4_0 := HZ5.out.cell (i := 0) rfl
          have z_4_1 := HZ5.out.cell (i := 1) rfl
          have z_4_2 := HZ5.out.cell (i := 2) rfl
          have z_5_0 := HZ6.out.cell (i := 0) rfl
          have z_5_1 := HZ6.out.cell (i := 1) rfl
          have z_6_0 := HZ7.out.cell (i := 0) rfl
          have z_6_1 := HZ7.out.cell (i := 1) rfl
          have z_7_0 := HZ8.out.cell (i := 0) rfl
          have z_7_1 := HZ8.out.cell (i := 1) rfl
          try (go_wp2_with fail)
          clear z_0_0 z_0_1 z_0_2 z_1_0 z_1_1 z_2_0 z_2_1 z_3_0 z_3_1 z_4_0 z_4_1 z_4_2 z_5_0 z_5_1 z_6_0 z_6_1 z_7_0 z_7_1
          refine (impl_IsRightKey ⟨P1a, Q1a, G1a⟩ _ ⟨l1ba, l1bb⟩ _ (DlR.mk HL1ba.out HL1bb.out)).mono ?_
          rintro e u18 ⟨rfl, hb⟩
          rw [HVK.out, Bool.true_and]
          obtain ⟨q18, hq18⟩ : ∃ r, decide ((badE ⟨P1a, Q1a, G1a⟩ ⟨l1ba, l1bb⟩).length = 0) = r := ⟨_, rfl⟩
          have Hq18 := Lib.hid hq18
          rw [hq18]
          clear hq18
          replace HB := Lib.hid (Below.next HB.out hb)
          replace HZ1 := Lib.hid (HZ1.out.below hb)
          replace HZ2 := Lib.hid (HZ2.out.below hb)
          replace HZ3 := Lib.hid (HZ3.out.below hb)
          replace HZ4 := Lib.hid (HZ4.out.below hb)
          replace HZ5 := Lib.hid (HZ5.out.below hb)
          replace HZ6 := Lib.hid (HZ6.out.below hb)
          replace HZ7 := Lib.hid (HZ7.out.below hb)
          replace HZ8 := Lib.hid (HZ8.out.below hb)
          replace HL1ba := Lib.hid (HL1ba.out.below hb)
          replace HL1bb := Lib.hid (HL1bb.out.below hb)
          replace HL1c := Lib.hid (HL1c.out.below hb)
          replace HL3a := Lib.hid (HL3a.out.below hb)
          replace HL3b := Lib.hid (HL3b.out.below hb)
          replace HL3l := Lib.hid (HL3l.out.below hb)
          replace HL5a := Lib.hid (HL5a.out.below hb)
          replace HL5b := Lib.hid (HL5b.out.below hb)
          replace HL5l := Lib.hid (HL5l.out.below hb)
          replace HL7ba := Lib.hid (HL7ba.out.below hb)
          replace HL7bb := Lib.hid (HL7bb.out.below hb)
          replace HL7d := Lib.hid (HL7d.out.below hb)
          replace HL9a := Lib.hid (HL9a.out.below hb)
          replace HL9b := Lib.hid (HL9b.out.below hb)
          replace HL11a := Lib.hid (HL11a.out.below hb)
          replace HL11b := Lib.hid (HL11b.out.below hb)
          clear hb
          have z_0_0 := HZ1.out.cell (i := 0) rfl
          have z_0_1 := HZ1.out.cell (i := 1) rfl
          have z_0_2 := HZ1.out.cell (i := 2) rfl
          have z_1_0 := HZ2.out.cell (i := 0) rfl
          have z_1_1 := HZ2.out.cell (i := 1) rfl
          have z_2_0 := HZ3.out.cell (i := 0) rfl
          have z_2_1 := HZ3.out.cell (i := 1) rfl
          have z_3_0 := HZ4.out.cell (i := 0) rfl
          have z_3_1 := HZ4.out.cell (i := 1) rfl
          have z_4_0 := HZ5.out.cell (i := 0) rfl
          have z_4_1 := HZ5.out.cell (i := 1) rfl
          have z_4_2 := HZ5.out.cell (i := 2) rfl
          have z_5_0 := HZ6.out.cell (i := 0) rfl
          have z_5_1 := HZ6.out.cell (i := 1) rfl
          have z_6_0 := HZ7.out.cell (i := 0) rfl
          have z_6_1 := HZ7.out.cell (i := 1) rfl
          have z_7_0 := HZ8.out.cell (i := 0) rfl
          have z_7_1 := HZ8.out.cell (i := 1) rfl
          try (go_wp2_with fail)
          clear z_0_0 z_0_1 z_0_2 z_1_0 z_1_1 z_2_0 z_2_1 z_3_0 z_3_1 z_4_0 z_4_1 z_4_2 z_5_0 z_5_1 z_6_0 z_6_1 z_7_0 z_7_1
          refine (impl_IsRightKey ⟨P1a, Q1a, G1a⟩ _ D3 _ (DlR.mk HL3a.out HL3b.out)).mono ?_
          rintro e u19 ⟨rfl, hb⟩
          rw [HVD.out, Bool.true_and, HBE.out]
          rw [Hq18.out]
          replace HB := Lib.hid (Below.next HB.out hb)
          replace HZ1 := Lib.hid (HZ1.out.below hb)
          replace HZ2 := Lib.hid (HZ2.out.below hb)
          replace HZ3 := Lib.hid (HZ3.out.below hb)
          replace HZ4 := Lib.hid (HZ4.out.below hb)
          replace HZ5 := Lib.hid (HZ5.out.below hb)
          replace HZ6 := Lib.hid (HZ6.out.below hb)
          replace HZ7 := Lib.hid (HZ7.out.below hb)
          replace HZ8 := Lib.hid (HZ8.out.below hb)
          replace HL1ba := Lib.hid (HL1ba.out.below hb)
          replace HL1bb := Lib.hid (HL1bb.out.below hb)
          replace HL1c := Lib.hid (HL1c.out.below hb)
          replace HL3a := Lib.hid (HL3a.out.below hb)
          replace HL3b := Lib.hid (HL3b.out.below hb)
          replace HL3l := Lib.hid (HL3l.out.below hb)
          replace HL5a := Lib.hid (HL5a.out.below hb)
          replace HL5b := Lib.hid (HL5b.out.below hb)
          replace HL5l := Lib.hid (HL5l.out.below hb)
          replace HL7ba := Lib.hid (HL7ba.out.below hb)
          replace HL7bb := Lib.hid (HL7bb.out.below hb)
          replace HL7d := Lib.hid (HL7d.out.below hb)
          replace HL9a := Lib.hid (HL9a.out.below hb)
          replace HL9b := Lib.hid (HL9b.out.below hb)
          replace HL11a := Lib.hid (HL11a.out.below hb)
          replace HL11b := Lib.hid (HL11b.out.below hb)
          clear hb
          have z_0_0 := HZ1.out.cell (i := 0) rfl
          have z_0_1 := HZ1.out.cell (i := 1) rfl
          have z_0_2 := HZ1.out.cell (i := 2) rfl
          have z_1_0 := HZ2.out.cell (i := 0) rfl
          have z_1_1 := HZ2.out.cell (i := 1) rfl
          have z_2_0 := HZ3.out.cell (i := 0) rfl
          have z_2_1 := HZ3.out.cell (i := 1) rfl
          have z_3_0 := HZ4.out.cell (i := 0) rfl
          have z_3_1 := HZ4.out.cell (i := 1) rfl
          have z_4_0 := HZ5.out.cell (i := 0) rfl
          have z_4_1 := HZ5.out.cell (i := 1) rfl
          have z_4_2 := HZ5.out.cell (i := 2) rfl
          have z_5_0 := HZ6.out.cell (i := 0) rfl
          have z_5_1 := HZ6.out.cell (i := 1) rfl
          have z_6_0 := HZ7.out.cell (i := 0) rfl
          have z_6_1 := HZ7.out.cell (i := 1) rfl
          have z_7_0 := HZ8.out.cell (i := 0) rfl
          have z_7_1 := HZ8.out.cell (i := 1) rfl
          go_wp2_with fail
          clear z_0_0 z_0_1 z_0_2 z_1_0 z_1_1 z_2_0 z_2_1 z_3_0 z_3_1 z_4_0 z_4_1 z_4_2 z_5_0 z_5_1 z_6_0 z_6_1 z_7_0 z_7_1
          obtain ⟨ca, co, hca, hcp⟩ := HL3a.out.at_ (by have := HLD.out; have := HE3a.out; omega)
          have yc := hcp 0 (by have := HLD.out; have := HE3a.out; omega)
          rw [Hy1.out, Nat.add_zero] at yc
          have hca' := hca
          subst hca'
          clear hca hcp
          obtain ⟨da, dd, hda, hdp⟩ := HL1ba.out.at_ (by have := HLK.out; have := HE1ba.out; omega)
          have yd := hdp 0 (by have := HLK.out; have := HE1ba.out; omega)
          rw [Hy0.out, Nat.add_zero] at yd
          have hda' := hda
          subst hda'
          clear hda hdp
          have hn1 : 0 < n3a := by have := HLD.out; have := HE3a.out; omega
          have hn2 : 0 < n1ba := by have := HLK.out; have := HE1ba.out; omega
          have hz1 : (0 : Int) < (n3a : Int) := by omega
          have hz2 : (0 : Int) < (n1ba : Int) := by omega
          have hyy : (y0 == y0) = true := by simp
          have hqq : (q18 == q18) = true := by simp
          have zc := HZ3.out.cell (i := 0) rfl
          have zd := HZ2.out.cell (i := 0) rfl
          have HCC : Hid (∀ w', Below u19.heap.size u19 w' → w'.cell? ⟨u3.heap.size, 0, none⟩ = some (.slice (some ⟨ca, co, none⟩) n3a c3a) ∧ w'.cell? ⟨u1.heap.size + 1, 0, none⟩ = some (.slice (some ⟨da, dd, none⟩) n1ba c1ba) ∧ w'.cell? ⟨ca, co, none⟩ = some (.int .i64 y0) ∧ w'.cell? ⟨da, dd, none⟩ = some (.int .i64 y0)) := fun w' h => ⟨box_at zc h, box_at zd h, box_at yc h, box_at yd h⟩
          clear zc zd yc yd
          refine wp_region_noPanic ?_
          refine wp_region_V (fun w' => w'.cell? ⟨u3.heap.size, 0, none⟩ = some (.slice (some ⟨ca, co, none⟩) n3a c3a) ∧ w'.cell? ⟨u1.heap.size + 1, 0, none⟩ = some (.slice (some ⟨da, dd, none⟩) n1ba c1ba) ∧ w'.cell? ⟨ca, co, none⟩ = some (.int .i64 y0) ∧ w'.cell? ⟨da, dd, none⟩ = some (.int .i64 y0)) 23 20 (.rd 0 (.rd 1 (.rd 2 (.rd 3 (.rd 4 (.rd 5 (.rd 6 (.rd 7 (.rd 8 (.rd 9 (.rd 10 (.rd 11 (.rd 12 (.rd 13 (.rd 14 (.rd 15 (.rd 16 (.rd 17 (.rd 18 (.rd 19 .done)))))))))))))))))))) [20] (by kernel_rfl) (by kernel_rfl) rfl (fun _ _ _ _ _ h => h) (HCC.out _ (Below.refl _ _).drew) ?_
          simp only [pickV, pickN, List.getElem?_cons_zero, List.getElem?_cons_succ]
          repeat (refine' wpV_read _ (by kernel_rfl) (fun w' hS' => ?_) ?_; rotate_left; · ((try dsimp only at hS'); go_simp; (try with_reducible rfl)); (try simp only [Act.put, List.setIfInBounds_toArray, List.set_cons_zero, List.set_cons_succ]))
          have hbd : Below u19.heap.size u19 u19.drew := (Below.refl _ _).drew
          refine wpV_done ?_
          go_wp2_with fail
          refine NoPanic.normal ?_
          go_wp2_with fail
          go_ret
          exact ⟨rfl, Below.next HB.out hbd⟩
    · have d1 : decide (x7c ≤ (n7bb : Int)) = false := decide_eq_false hin
      cases q3 with
      | false =>
        have z_0_0 := HZ1.out.cell (i := 0) rfl
        have z_0_1 := HZ1.out.cell (i := 1) rfl
        have z_0_2 := HZ1.out.cell (i := 2) rfl
        have z_1_0 := HZ2.out.cell (i := 0) rfl
        have z_1_1 := HZ2.out.cell (i := 1) rfl
        have z_2_0 := HZ3.out.cell (i := 0) rfl
        have z_2_1 := HZ3.out.cell (i := 1) rfl
        have z_3_0 := HZ4.out.cell (i := 0) rfl
        have z_3_1 := HZ4.out.cell (i := 1) rfl
        have z_4_0 := HZ5.out.cell (i := 0) rfl
        have z_4_1 := HZ5.out.cell (i := 1) rfl
        have z_4_2 := HZ5.out.cell (i := 2) rfl
        have z_5_0 := HZ6.out.cell (i := 0) rfl
        have z_5_1 := HZ6.out.cell (i := 1) rfl
        have z_6_0 := HZ7.out.cell (i := 0) rfl
        have z_6_1 := HZ7.out.cell (i := 1) rfl
        have z_7_0 := HZ8.out.cell (i := 0) rfl
        have z_7_1 := HZ8.out.cell (i := 1) rfl
        try (go_wp2_with fail)
        clear z_0_0 z_0_1 z_0_2 z_1_0 z_1_1 z_2_0 z_2_1 z_3_0 z_3_1 z_4_0 z_4_1 z_4_2 z_5_0 z_5_1 z_6_0 z_6_1 z_7_0 z_7_1
        go_ret
        exact ⟨rfl, HB.out⟩
      | true =>
        obtain ⟨t1, t2, t3, t4, t5, t6⟩ := rf_facts Hq3.out HD3.out
        have HVK := Lib.hid t1
        have HVD := Lib.hid t2
        have HBE := Lib.hid t3
        have HLD : Hid (0 < (D3).c.length) := t5
        have HLK : Hid (0 < (l1ba).length) := t6
        obtain ⟨y0, hy0⟩ : ∃ y, nth l1ba 0 = y := ⟨_, rfl⟩
        have Hy0 := Lib.hid hy0
        have Hy1 : Hid (nth D3.c 0 = y0) := by unfold Hid; rw [t4]; exact hy0
        clear t1 t2 t3 t4 t5 t6 hy0
        have z_0_0 := HZ1.out.cell (i := 0) rfl
        have z_0_1 := HZ1.out.cell (i := 1) rfl
        have z_0_2 := HZ1.out.cell (i := 2) rfl
        have z_1_0 := HZ2.out.cell (i := 0) rfl
        have z_1_1 := HZ2.out.cell (i := 1) rfl
        have z_2_0 := HZ3.out.cell (i := 0) rfl
        have z_2_1 := HZ3.out.cell (i := 1) rfl
        have z_3_0 := HZ4.out.cell (i := 0) rfl
        have z_3_1 := HZ4.out.cell (i := 1) rfl
        have z_4_0 := HZ5.out.cell (i := 0) rfl
        have z_4_1 := HZ5.out.cell (i := 1) rfl
        have z_4_2 := HZ5.out.cell (i := 2) rfl
        have z_5_0 := HZ6.out.cell (i := 0) rfl
        have z_5_1 := HZ6.out.cell (i := 1) rfl
        have z_6_0 := HZ7.out.cell (i := 0) rfl
        have z_6_1 := HZ7.out.cell (i := 1) rfl
        have z_7_0 := HZ8.out.cell (i := 0) rfl
        have z_7_1 := HZ8.out.cell (i := 1) rfl
        try (go_wp2_with fail)
        clear z_0_0 z_0_1 z_0_2 z_1_0 z_1_1 z_2_0 z_2_1 z_3_0 z_3_1 z_4_0 z_4_1 z_4_2 z_5_0 z_5_1 z_6_0 z_6_1 z_7_0 z_7_1
        refine (impl_IsRightKey ⟨P1a, Q1a, G1a⟩ _ ⟨l1ba, l1bb⟩ _ (DlR.mk HL1ba.out HL1bb.out)).mono ?_
        rintro e u18 ⟨rfl, hb⟩
        rw [HVK.out, Bool.true_and]
        obtain ⟨q18, hq18⟩ : ∃ r, decide ((badE ⟨P1a, Q1a, G1a⟩ ⟨l1ba, l1bb⟩).length = 0) = r := ⟨_, rfl⟩
        have Hq18 := Lib.hid hq18
        rw [hq18]
        clear hq18
        replace HB := Lib.hid (Below.next HB.out hb)
        replace HZ1 := Lib.hid (HZ1.out.below hb)
        replace HZ2 := Lib.hid (HZ2.out.below hb)
        replace HZ3 := Lib.hid (HZ3.out.below hb)
        replace HZ4 := Lib.hid (HZ4.out.below hb)
        replace HZ5 := Lib.hid (HZ5.out.below hb)
        replace HZ6 := Lib.hid (HZ6.out.below hb)
        replace HZ7 := Lib.hid (HZ7.out.below hb)
        replace HZ8 := Lib.hid (HZ8.out.below hb)
        replace HL1ba := Lib.hid (HL1ba.out.below hb)
        replace HL1bb := Lib.hid (HL1bb.out.below hb)
        replace HL1c := Lib.hid (HL1c.out.below hb)
        replace HL3a := Lib.hid (HL3a.out.below hb)
        replace HL3b := Lib.hid (HL3b.out.below hb)
        replace HL3l := Lib.hid (HL3l.out.below hb)
        replace HL5a := Lib.hid (HL5a.out.below hb)
        replace HL5b := Lib.hid (HL5b.out.below hb)
        replace HL5l := Lib.hid (HL5l.out.below hb)
        replace HL7ba := Lib.hid (HL7ba.out.below hb)
        replace HL7bb := Lib.hid (HL7bb.out.below hb)
        replace HL7d := Lib.hid (HL7d.out.below hb)
        replace HL9a := Lib.hid (HL9a.out.below hb)
        replace HL9b := Lib.hid (HL9b.out.below hb)
        replace HL11a := Lib.hid (HL11a.out.below hb)
        replace HL11b := Lib.hid (HL11b.out.below hb)
        clear hb
        have z_0_0 := HZ1.out.cell (i := 0) rfl
        have z_0_1 := HZ1.out.cell (i := 1) rfl
        have z_0_2 := HZ1.out.cell (i := 2) rfl
        have z_1_0 := HZ2.out.cell (i := 0) rfl
        have z_1_1 := HZ2.out.cell (i := 1) rfl
        have z_2_0 := HZ3.out.cell (i := 0) rfl
        have z_2_1 := HZ3.out.cell (i := 1) rfl
        have z_3_0 := HZ4.out.cell (i := 0) rfl
        have z_3_1 := HZ4.out.cell (i := 1) rfl
        have z_4_0 := HZ5.out.cell (i := 0) rfl
        have z_4_1 := HZ5.out.cell (i := 1) rfl
        have z_4_2 := HZ5.out.cell (i := 2) rfl
        have z_5_0 := HZ6.out.cell (i := 0) rfl
        have z_5_1 := HZ6.out.cell (i := 1) rfl
        have z_6_0 := HZ7.out.cell (i := 0) rfl
        have z_6_1 := HZ7.out.cell (i := 1) rfl
        have z_7_0 := HZ8.out.cell (i := 0) rfl
        have z_7_1 := HZ8.out.cell (i := 1) rfl
        try (go_wp2_with fail)
        clear z_0_0 z_0_1 z_0_2 z_1_0 z_1_1 z_2_0 z_2_1 z_3_0 z_3_1 z_4_0 z_4_1 z_4_2 z_5_0 z_5_1 z_6_0 z_6_1 z_7_0 z_7_1
        refine (impl_IsRightKey ⟨P1a, Q1a, G1a⟩ _ D3 _ (DlR.mk HL3a.out HL3b.out)).mono ?_
        rintro e u19 ⟨rfl, hb⟩
        rw [HVD.out, Bool.true_and, HBE.out]
        rw [Hq18.out]
        replace HB := Lib.hid (Below.next HB.out hb)
        replace HZ1 := Lib.hid (HZ1.out.below hb)
        replace HZ2 := Lib.hid (HZ2.out.below hb)
        replace HZ3 := Lib.hid (HZ3.out.below hb)
        replace HZ4 := Lib.hid (HZ4.out.below hb)
        replace HZ5 := Lib.hid (HZ5.out.below hb)
        replace HZ6 := Lib.hid (HZ6.out.below hb)
        replace HZ7 := Lib.hid (HZ7.out.below hb)
        replace HZ8 := Lib.hid (HZ8.out.below hb)
        replace HL1ba := Lib.hid (HL1ba.out.below hb)
        replace HL1bb := Lib.hid (HL1bb.out.below hb)
        replace HL1c := Lib.hid (HL1c.out.below hb)
        replace HL3a := Lib.hid (HL3a.out.below hb)
        replace HL3b := Lib.hid (HL3b.out.below hb)
        replace HL3l := Lib.hid (HL3l.out.below hb)
        replace HL5a := Lib.hid (HL5a.out.below hb)
        replace HL5b := Lib.hid (HL5b.out.below hb)
        replace HL5l := Lib.hid (HL5l.out.below hb)
        replace HL7ba := Lib.hid (HL7ba.out.below hb)
        replace HL7bb := Lib.hid (HL7bb.out.below hb)
        replace HL7d := Lib.hid (HL7d.out.below hb)
        replace HL9a := Lib.hid (HL9a.out.below hb)
        replace HL9b := Lib.hid (HL9b.out.below hb)
        replace HL11a := Lib.hid (HL11a.out.below hb)
        replace HL11b := Lib.hid (HL11b.out.below hb)
        clear hb
        have z_0_0 := HZ1.out.cell (i := 0) rfl
        have z_0_1 := HZ1.out.cell (i := 1) rfl
        have z_0_2 := HZ1.out.cell (i := 2) rfl
        have z_1_0 := HZ2.out.cell (i := 0) rfl
        have z_1_1 := HZ2.out.cell (i := 1) rfl
        have z_2_0 := HZ3.out.cell (i := 0) rfl
        have z_2_1 := HZ3.out.cell (i := 1) rfl
        have z_3_0 := HZ4.out.cell (i := 0) rfl
        have z_3_1 := HZ4.out.cell (i := 1) rfl
        have z_4_0 := HZ5.out.cell (i := 0) rfl
        have z_4_1 := HZ5.out.cell (i := 1) rfl
        have z_4_2 := HZ5.out.cell (i := 2) rfl
        have z_5_0 := HZ6.out.cell (i := 0) rfl
        have z_5_1 := HZ6.out.cell (i := 1) rfl
        have z_6_0 := HZ7.out.cell (i := 0) rfl
        have z_6_1 := HZ7.out.cell (i := 1) rfl
        have z_7_0 := HZ8.out.cell (i := 0) rfl
        have z_7_1 := HZ8.out.cell (i := 1) rfl
        go_wp2_with fail
        clear z_0_0 z_0_1 z_0_2 z_1_0 z_1_1 z_2_0 z_2_1 z_3_0 z_3_1 z_4_0 z_4_1 z_4_2 z_5_0 z_5_1 z_6_0 z_6_1 z_7_0 z_7_1
        obtain ⟨ca, co, hca, hcp⟩ := HL3a.out.at_ (by have := HLD.out; have := HE3a.out; omega)
        have yc := hcp 0 (by have := HLD.out; have := HE3a.out; omega)
        rw [Hy1.out, Nat.add_zero] at yc
        have hca' := hca
        subst hca'
        clear hca hcp
        obtain ⟨da, dd, hda, hdp⟩ := HL1ba.out.at_ (by have := HLK.out; have := HE1ba.out; omega)
        have yd := hdp 0 (by have := HLK.out; have := HE1ba.out; omega)
        rw [Hy0.out, Nat.add_zero] at yd
        have hda' := hda
        subst hda'
        clear hda hdp
        have hn1 : 0 < n3a := by have := HLD.out; have := HE3a.out; omega
        have hn2 : 0 < n1ba := by have := HLK.out; have := HE1ba.out; omega
        have hz1 : (0 : Int) < (n3a : Int) := by omega
        have hz2 : (0 : Int) < (n1ba : Int) := by omega
        have hyy : (y0 == y0) = true := by simp
        have hqq : (q18 == q18) = true := by simp
        have zc := HZ3.out.cell (i := 0) rfl
        have zd := HZ2.out.cell (i := 0) rfl
        have HCC : Hid (∀ w', Below u19.heap.size u19 w' → w'.cell? ⟨u3.heap.size, 0, none⟩ = some (.slice (some ⟨ca, co, none⟩) n3a c3a) ∧ w'.cell? ⟨u1.heap.size + 1, 0, none⟩ = some (.slice (some ⟨da, dd, none⟩) n1ba c1ba) ∧ w'.cell? ⟨ca, co, none⟩ = some (.int .i64 y0) ∧ w'.cell? ⟨da, dd, none⟩ = some (.int .i64 y0)) := fun w' h => ⟨box_at zc h, box_at zd h, box_at yc h, box_at yd h⟩
        clear zc zd yc yd
        refine wp_region_noPanic ?_
        refine wp_region_V (fun w' => w'.cell? ⟨u3.heap.size, 0, none⟩ = some (.slice (some ⟨ca, co, none⟩) n3a c3a) ∧ w'.cell? ⟨u1.heap.size + 1, 0, none⟩ = some (.slice (some ⟨da, dd, none⟩) n1ba c1ba) ∧ w'.cell? ⟨ca, co, none⟩ = some (.int .i64 y0) ∧ w'.cell? ⟨da, dd, none⟩ = some (.int .i64 y0)) 23 20 (.rd 0 (.rd 1 (.rd 2 (.rd 3 (.rd 4 (.rd 5 (.rd 6 (.rd 7 (.rd 8 (.rd 9 (.rd 10 (.rd 11 (.rd 12 (.rd 13 (.rd 14 (.rd 15 (.rd 16 (.rd 17 (.rd 18 (.rd 19 .done)))))))))))))))))))) [20] (by kernel_rfl) (by kernel_rfl) rfl (fun _ _ _ _ _ h => h) (HCC.out _ (Below.refl _ _).drew) ?_
        simp only [pickV, pickN, List.getElem?_cons_zero, List.getElem?_cons_succ]
        repeat (refine' wpV_read _ (by kernel_rfl) (fun w' hS' => ?_) ?_; rotate_left; · ((try dsimp only at hS'); go_simp; (try with_reducible rfl)); (try simp only [Act.put, List.setIfInBounds_toArray, List.set_cons_zero, List.set_cons_succ]))
        have hbd : Below u19.heap.size u19 u19.drew := (Below.refl _ _).drew
        refine wpV_done ?_
        go_wp2_with fail
        refine NoPanic.normal ?_
        go_wp2_with fail
        go_ret
        exact ⟨rfl, Below.next HB.out hbd⟩
end Go.Proofs.YtacpnphfopmofaaGreat
