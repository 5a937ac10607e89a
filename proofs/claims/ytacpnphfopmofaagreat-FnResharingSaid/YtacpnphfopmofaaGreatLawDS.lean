/- The walk of FnResharing (printed by gen_lawres.py). -/
import Derived.Test.YtacpnphfopmofaaGreatDrZ7S
import Derived.Test.YtacpnphfopmofaaGreatRf6S
import Derived.Test.YtacpnphfopmofaaGreatRs3S
import Derived.Test.YtacpnphfopmofaaGreatRs1S
import Derived.Test.YtacpnphfopmofaaGreatSh2S
import Derived.Test.YtacpnphfopmofaaGreatBaS
import Derived.WalkKit
import Derived.ProofKit
import Derived.OpenShut
import Derived.JoinedCond
import Derived.Lib.SmallJoins
import Derived.Deep.Fields
import Derived.Test.YtacpnphfopmofaaGreatPow2S
import Derived.Test.YtacpnphfopmofaaGreatBmS
namespace Go.Proofs.YtacpnphfopmofaaGreat
open Go.RowKit
set_option linter.unusedSimpArgs false
set_option linter.unusedVariables false

theorem rv_parts {gr : GroupD} {cs ix ss : List Int} {i : Int} (h : rvB gr cs i ix ss = true) : asB gr cs ix ss = true ∧ (1 ≤ i ∧ i ≤ 7) ∧ vaB gr cs ix ss = true := by
  unfold rvB at h
  simp only [Bool.and_eq_true, decide_eq_true_iff] at h
  exact ⟨h.1, h.2.1, h.2.2⟩
theorem rv_64 (gr : GroupD) (cs : List Int) (i : Int) (ix ss : List Int) : I64 (rvR gr cs i ix ss) := by
  unfold rvR
  split
  · rename_i h
    obtain ⟨h1, h2, h3⟩ := rv_parts h
    unfold asB at h1
    simp only [Bool.and_eq_true, decide_eq_true_iff] at h1
    have hb := expB_bd (vaV_bd h1.1 cs ix ss i)
    have hg := shG_ok h1.1
    have := hg.q2
    have := hg.p2
    exact ⟨by omega, by omega⟩
  · exact ⟨by decide, by decide⟩
theorem rv_right {gr : GroupD} {cs ix ss : List Int} {i r : Int} (h : rvB gr cs i ix ss = true) (hr : rvR gr cs i ix ss = r) : ckB gr cs i r = true ∧ ckR gr cs i r = true := by
  obtain ⟨h1, h2, h3⟩ := rv_parts h
  have e : vaV gr cs ix ss i = r := by unfold rvR at hr; rwa [if_pos h] at hr
  rw [← e]; exact rec_right h2 h1 h3
theorem rs_facts {gr : GroupD} {cm ix : List Int} {l : List DealingD} {D : DealingD} (h : rsB gr cm ix l = true) (hD : rsK gr cm ix l = D) : vdB gr D = true ∧ decide ((badE gr D).length = 0) = true ∧ nth D.c 0 = nth cm 0 ∧ 0 < D.c.length ∧ 0 < cm.length := by
  have e : rsD gr cm ix l = D := by unfold rsK at hD; rwa [if_pos h] at hD
  obtain ⟨h1, h2, h3, h4, h5⟩ := rs_right h
  rw [e] at h1 h2 h3 h4
  exact ⟨h1, by rw [h2]; rfl, h3, h4, h5⟩
set_option maxRecDepth 100000 in
set_option maxHeartbeats 8000000 in
theorem law_Resharing (va vb : Value) (w : World) (h1 : Bytes w va) (h2 : Bytes w vb) :
    Calls Tryz.prog 4 #[va, vb] w fun e w' => e = .returned (.bool true) ∧ Below w.heap.size w w' := by
  obtain ⟨a, m, c, rfl, k1, k2, hv⟩ := h1
  obtain ⟨a', m', c', rfl, k3, k4, hv'⟩ := h2
  have H1 : Hid (Bytes w (.slice a m c)) := ⟨a, m, c, rfl, k1, k2, hv⟩
  have H2 : Hid (Bytes w (.slice a' m' c')) := ⟨a', m', c', rfl, k3, k4, hv'⟩
  clear hv hv'
  unfold maxLen at k2 k4
  by_cases hbig : (1048576 : Int) < wrap64 ((m : Int) + (m' : Int))
  · go_enter Tryz.func4, Tryz.ntmps4
    go_wp2_with fail
    go_ret
    exact ⟨rfl, Below.refl _ _⟩
  have HB : Hid (Below w.heap.size w w) := Below.refl _ _
  go_enter Tryz.func4, Tryz.ntmps4
  go_wp2_with fail
  try (go_wp2_with fail)
  refine (spec_DrawReshareKey _ _ (H1.out.below HB.out)).mono ?_
  rintro e u1 ⟨⟨P1a, Q1a, G1a, v1b, l1b, v1c, l1c, v1d, l1d, rfl, hgr1a, ⟨hs1b, hl1b⟩, ⟨hs1c, hl1c⟩, ⟨hs1d, hl1d⟩⟩, hb⟩
  clear hgr1a
  have HL1b := Lib.hid hs1b
  obtain ⟨a1b, n1b, c1b, rfl⟩ := hs1b.shape
  have HE1b := Lib.hid hs1b.len
  clear hs1b
  have HL1c := Lib.hid hs1c
  obtain ⟨a1c, n1c, c1c, rfl⟩ := hs1c.shape
  have HE1c := Lib.hid hs1c.len
  clear hs1c
  have HL1d := Lib.hid hs1d
  obtain ⟨a1d, n1d, c1d, rfl⟩ := hs1d.shape
  have HE1d := Lib.hid hs1d.len
  clear hs1d
  replace HB := Lib.hid (Below.next HB.out hb)
  clear hb
  obtain ⟨V2, hV⟩ : ∃ V, V = u1.alloc (.cells #[.int .i64 P1a, .int .i64 Q1a, .int .i64 G1a] 24) := ⟨_, rfl⟩
  have hbV : Below u1.heap.size u1 V2 := by rw [hV]; (repeat (first | exact Below.refl _ _ | assumption | refine Below.drew ?_ | refine Below.alloc ?_ (by first | (simp; done) | (simp; omega)) _ | refine Below.setCell ?_ (by first | (simp; done) | (simp; omega)) _))
  have HZ1 : Hid (BoxN V2 u1.heap.size 24 [.int .i64 P1a, .int .i64 Q1a, .int .i64 G1a]) := by unfold Hid; rw [hV]; have h := (BoxN.new u1 [.int .i64 P1a, .int .i64 Q1a, .int .i64 G1a] 24); simpa using h
  try (go_wp2_with fail)
  rw [← hV]
  clear hV
  replace HB := Lib.hid (Below.next HB.out hbV)
  replace HL1b := Lib.hid (HL1b.out.below hbV)
  replace HL1c := Lib.hid (HL1c.out.below hbV)
  replace HL1d := Lib.hid (HL1d.out.below hbV)
  clear hbV
  have z_0_0 := HZ1.out.cell (i := 0) rfl
  have z_0_1 := HZ1.out.cell (i := 1) rfl
  have z_0_2 := HZ1.out.cell (i := 2) rfl
  try (go_wp2_with fail)
  clear z_0_0 z_0_1 z_0_2
  refine (impl_ReshareKey ⟨P1a, Q1a, G1a⟩ _ l1b _ l1c _ l1d _ HL1b.out HL1c.out HL1d.out).mono ?_
  rintro e u3 ⟨⟨v3a, v3b, v3l, rfl, hs3a, hs3b, hs3l⟩, hb⟩
  obtain ⟨D3, hD3⟩ : ∃ d, rsK ⟨P1a, Q1a, G1a⟩ l1b l1c l1d = d := ⟨_, rfl⟩
  have HD3 := Lib.hid hD3
  rw [hD3] at hs3a hs3b
  clear hD3
  have HL3a := Lib.hid hs3a
  obtain ⟨a3a, n3a, c3a, rfl⟩ := hs3a.shape
  have HE3a := Lib.hid hs3a.len
  clear hs3a
  have HL3b := Lib.hid hs3b
  obtain ⟨a3b, n3b, c3b, rfl⟩ := hs3b.shape
  have HE3b := Lib.hid hs3b.len
  clear hs3b
  have HL3l := Lib.hid hs3l
  obtain ⟨a3l, n3l, c3l, rfl⟩ := hs3l.shape
  have HE3l := Lib.hid hs3l.len
  clear hs3l
  obtain ⟨q3, hq3⟩ : ∃ r, rsB ⟨P1a, Q1a, G1a⟩ l1b l1c l1d = r := ⟨_, rfl⟩
  have Hq3 := Lib.hid hq3
  rw [hq3]
  clear hq3
  replace HB := Lib.hid (Below.next HB.out hb)
  replace HZ1 := Lib.hid (HZ1.out.below hb)
  replace HL1b := Lib.hid (HL1b.out.below hb)
  replace HL1c := Lib.hid (HL1c.out.below hb)
  replace HL1d := Lib.hid (HL1d.out.below hb)
  clear hb
  have z_0_0 := HZ1.out.cell (i := 0) rfl
  have z_0_1 := HZ1.out.cell (i := 1) rfl
  have z_0_2 := HZ1.out.cell (i := 2) rfl
  have lt_HZ1 := HZ1.out.lt
  obtain ⟨V4, hV⟩ : ∃ V, V = u3.alloc (.cells #[.slice a3a n3a c3a, .slice a3b n3b c3b] 27) := ⟨_, rfl⟩
  have hbV : Below u3.heap.size u3 V4 := by rw [hV]; (repeat (first | exact Below.refl _ _ | assumption | refine Below.drew ?_ | refine Below.alloc ?_ (by first | (simp; done) | (simp; omega)) _ | refine Below.setCell ?_ (by first | (simp; done) | (simp; omega)) _))
  have HZ2 : Hid (BoxN V4 u3.heap.size 27 [.slice a3a n3a c3a, .slice a3b n3b c3b]) := by unfold Hid; rw [hV]; have h := (BoxN.new u3 [.slice a3a n3a c3a, .slice a3b n3b c3b] 27); simpa using h
  try (go_wp2_with fail)
  rw [← hV]
  clear hV
  clear lt_HZ1
  clear z_0_0 z_0_1 z_0_2
  replace HB := Lib.hid (Below.next HB.out hbV)
  replace HZ1 := Lib.hid (HZ1.out.below hbV)
  replace HL1b := Lib.hid (HL1b.out.below hbV)
  replace HL1c := Lib.hid (HL1c.out.below hbV)
  replace HL1d := Lib.hid (HL1d.out.below hbV)
  replace HL3a := Lib.hid (HL3a.out.below hbV)
  replace HL3b := Lib.hid (HL3b.out.below hbV)
  replace HL3l := Lib.hid (HL3l.out.below hbV)
  clear hbV
  have z_0_0 := HZ1.out.cell (i := 0) rfl
  have z_0_1 := HZ1.out.cell (i := 1) rfl
  have z_0_2 := HZ1.out.cell (i := 2) rfl
  have z_1_0 := HZ2.out.cell (i := 0) rfl
  have z_1_1 := HZ2.out.cell (i := 1) rfl
  try (go_wp2_with fail)
  clear z_0_0 z_0_1 z_0_2 z_1_0 z_1_1
  refine (spec_ReshareKey ⟨P1a, Q1a, G1a⟩ _ l1b _ l1c _ l1d _ HL1b.out HL1c.out HL1d.out).mono ?_
  rintro e u5 ⟨⟨v5a, v5b, v5l, rfl, hs5a, hs5b, hs5l⟩, hb⟩
  rw [HD3.out] at hs5a hs5b
  have HL5a := Lib.hid hs5a
  obtain ⟨a5a, n5a, c5a, rfl⟩ := hs5a.shape
  have HE5a := Lib.hid hs5a.len
  clear hs5a
  have HL5b := Lib.hid hs5b
  obtain ⟨a5b, n5b, c5b, rfl⟩ := hs5b.shape
  have HE5b := Lib.hid hs5b.len
  clear hs5b
  have HL5l := Lib.hid hs5l
  obtain ⟨a5l, n5l, c5l, rfl⟩ := hs5l.shape
  have HE5l := Lib.hid hs5l.len
  clear hs5l
  rw [Hq3.out]
  replace HB := Lib.hid (Below.next HB.out hb)
  replace HZ1 := Lib.hid (HZ1.out.below hb)
  replace HZ2 := Lib.hid (HZ2.out.below hb)
  replace HL1b := Lib.hid (HL1b.out.below hb)
  replace HL1c := Lib.hid (HL1c.out.below hb)
  replace HL1d := Lib.hid (HL1d.out.below hb)
  replace HL3a := Lib.hid (HL3a.out.below hb)
  replace HL3b := Lib.hid (HL3b.out.below hb)
  replace HL3l := Lib.hid (HL3l.out.below hb)
  clear hb
  have z_0_0 := HZ1.out.cell (i := 0) rfl
  have z_0_1 := HZ1.out.cell (i := 1) rfl
  have z_0_2 := HZ1.out.cell (i := 2) rfl
  have z_1_0 := HZ2.out.cell (i := 0) rfl
  have z_1_1 := HZ2.out.cell (i := 1) rfl
  have lt_HZ1 := HZ1.out.lt
  have lt_HZ2 := HZ2.out.lt
  obtain ⟨V6, hV⟩ : ∃ V, V = u5.alloc (.cells #[.slice a5a n5a c5a, .slice a5b n5b c5b] 27) := ⟨_, rfl⟩
  have hbV : Below u5.heap.size u5 V6 := by rw [hV]; (repeat (first | exact Below.refl _ _ | assumption | refine Below.drew ?_ | refine Below.alloc ?_ (by first | (simp; done) | (simp; omega)) _ | refine Below.setCell ?_ (by first | (simp; done) | (simp; omega)) _))
  have HZ3 : Hid (BoxN V6 u5.heap.size 27 [.slice a5a n5a c5a, .slice a5b n5b c5b]) := by unfold Hid; rw [hV]; have h := (BoxN.new u5 [.slice a5a n5a c5a, .slice a5b n5b c5b] 27); simpa using h
  try (go_wp2_with fail)
  rw [← hV]
  clear hV
  clear lt_HZ1
  clear lt_HZ2
  clear z_0_0 z_0_1 z_0_2 z_1_0 z_1_1
  replace HB := Lib.hid (Below.next HB.out hbV)
  replace HZ1 := Lib.hid (HZ1.out.below hbV)
  replace HZ2 := Lib.hid (HZ2.out.below hbV)
  replace HL1b := Lib.hid (HL1b.out.below hbV)
  replace HL1c := Lib.hid (HL1c.out.below hbV)
  replace HL1d := Lib.hid (HL1d.out.below hbV)
  replace HL3a := Lib.hid (HL3a.out.below hbV)
  replace HL3b := Lib.hid (HL3b.out.below hbV)
  replace HL3l := Lib.hid (HL3l.out.below hbV)
  replace HL5a := Lib.hid (HL5a.out.below hbV)
  replace HL5b := Lib.hid (HL5b.out.below hbV)
  replace HL5l := Lib.hid (HL5l.out.below hbV)
  clear hbV
  have z_0_0 := HZ1.out.cell (i := 0) rfl
  have z_0_1 := HZ1.out.cell (i := 1) rfl
  have z_0_2 := HZ1.out.cell (i := 2) rfl
  have z_1_0 := HZ2.out.cell (i := 0) rfl
  have z_1_1 := HZ2.out.cell (i := 1) rfl
  have z_2_0 := HZ3.out.cell (i := 0) rfl
  have z_2_1 := HZ3.out.cell (i := 1) rfl
  try (go_wp2_with fail)
  clear z_0_0 z_0_1 z_0_2 z_1_0 z_1_1 z_2_0 z_2_1
  refine (spec_DrawRecoverShare _ _ (H2.out.below HB.out)).mono ?_
  rintro e u7 ⟨⟨P7a, Q7a, G7a, v7b, l7b, x7c, v7d, l7d, v7e, l7e, rfl, hgr7a, ⟨hs7b, hl7b⟩, hi7c, ⟨hs7d, hl7d⟩, ⟨hs7e, hl7e⟩⟩, hb⟩
  clear hgr7a
  have HL7b := Lib.hid hs7b
  obtain ⟨a7b, n7b, c7b, rfl⟩ := hs7b.shape
  have HE7b := Lib.hid hs7b.len
  clear hs7b
  have HL7d := Lib.hid hs7d
  obtain ⟨a7d, n7d, c7d, rfl⟩ := hs7d.shape
  have HE7d := Lib.hid hs7d.len
  clear hs7d
  have HL7e := Lib.hid hs7e
  obtain ⟨a7e, n7e, c7e, rfl⟩ := hs7e.shape
  have HE7e := Lib.hid hs7e.len
  clear hs7e
  replace HB := Lib.hid (Below.next HB.out hb)
  replace HZ1 := Lib.hid (HZ1.out.below hb)
  replace HZ2 := Lib.hid (HZ2.out.below hb)
  replace HZ3 := Lib.hid (HZ3.out.below hb)
  replace HL1b := Lib.hid (HL1b.out.below hb)
  replace HL1c := Lib.hid (HL1c.out.below hb)
  replace HL1d := Lib.hid (HL1d.out.below hb)
  replace HL3a := Lib.hid (HL3a.out.below hb)
  replace HL3b := Lib.hid (HL3b.out.below hb)
  replace HL3l := Lib.hid (HL3l.out.below hb)
  replace HL5a := Lib.hid (HL5a.out.below hb)
  replace HL5b := Lib.hid (HL5b.out.below hb)
  replace HL5l := Lib.hid (HL5l.out.below hb)
  clear hb
  have z_0_0 := HZ1.out.cell (i := 0) rfl
  have z_0_1 := HZ1.out.cell (i := 1) rfl
  have z_0_2 := HZ1.out.cell (i := 2) rfl
  have z_1_0 := HZ2.out.cell (i := 0) rfl
  have z_1_1 := HZ2.out.cell (i := 1) rfl
  have z_2_0 := HZ3.out.cell (i := 0) rfl
  have z_2_1 := HZ3.out.cell (i := 1) rfl
  have lt_HZ1 := HZ1.out.lt
  have lt_HZ2 := HZ2.out.lt
  have lt_HZ3 := HZ3.out.lt
  obtain ⟨V8, hV⟩ : ∃ V, V = u7.alloc (.cells #[.int .i64 P7a, .int .i64 Q7a, .int .i64 G7a] 24) := ⟨_, rfl⟩
  have hbV : Below u7.heap.size u7 V8 := by rw [hV]; (repeat (first | exact Below.refl _ _ | assumption | refine Below.drew ?_ | refine Below.alloc ?_ (by first | (simp; done) | (simp; omega)) _ | refine Below.setCell ?_ (by first | (simp; done) | (simp; omega)) _))
  have HZ4 : Hid (BoxN V8 u7.heap.size 24 [.int .i64 P7a, .int .i64 Q7a, .int .i64 G7a]) := by unfold Hid; rw [hV]; have h := (BoxN.new u7 [.int .i64 P7a, .int .i64 Q7a, .int .i64 G7a] 24); simpa using h
  try (go_wp2_with fail)
  rw [← hV]
  clear hV
  clear lt_HZ1
  clear lt_HZ2
  clear lt_HZ3
  clear z_0_0 z_0_1 z_0_2 z_1_0 z_1_1 z_2_0 z_2_1
  replace HB := Lib.hid (Below.next HB.out hbV)
  replace HZ1 := Lib.hid (HZ1.out.below hbV)
  replace HZ2 := Lib.hid (HZ2.out.below hbV)
  replace HZ3 := Lib.hid (HZ3.out.below hbV)
  replace HL1b := Lib.hid (HL1b.out.below hbV)
  replace HL1c := Lib.hid (HL1c.out.below hbV)
  replace HL1d := Lib.hid (HL1d.out.below hbV)
  replace HL3a := Lib.hid (HL3a.out.below hbV)
  replace HL3b := Lib.hid (HL3b.out.below hbV)
  replace HL3l := Lib.hid (HL3l.out.below hbV)
  replace HL5a := Lib.hid (HL5a.out.below hbV)
  replace HL5b := Lib.hid (HL5b.out.below hbV)
  replace HL5l := Lib.hid (HL5l.out.below hbV)
  replace HL7b := Lib.hid (HL7b.out.below hbV)
  replace HL7d := Lib.hid (HL7d.out.below hbV)
  replace HL7e := Lib.hid (HL7e.out.below hbV)
  clear hbV
  have z_0_0 := HZ1.out.cell (i := 0) rfl
  have z_0_1 := HZ1.out.cell (i := 1) rfl
  have z_0_2 := HZ1.out.cell (i := 2) rfl
  have z_1_0 := HZ2.out.cell (i := 0) rfl
  have z_1_1 := HZ2.out.cell (i := 1) rfl
  have z_2_0 := HZ3.out.cell (i := 0) rfl
  have z_2_1 := HZ3.out.cell (i := 1) rfl
  have z_3_0 := HZ4.out.cell (i := 0) rfl
  have z_3_1 := HZ4.out.cell (i := 1) rfl
  have z_3_2 := HZ4.out.cell (i := 2) rfl
  try (go_wp2_with fail)
  clear z_0_0 z_0_1 z_0_2 z_1_0 z_1_1 z_2_0 z_2_1 z_3_0 z_3_1 z_3_2
  refine (impl_RecoverShare ⟨P7a, Q7a, G7a⟩ _ l7b x7c _ l7d _ l7e _ HL7b.out HL7d.out HL7e.out).mono ?_
  rintro e u9 ⟨rfl, hb⟩
  obtain ⟨r9a, hr9a⟩ : ∃ r, rvR ⟨P7a, Q7a, G7a⟩ l7b x7c l7d l7e = r := ⟨_, rfl⟩
  have Hr9a := Lib.hid hr9a
  rw [hr9a]
  clear hr9a
  obtain ⟨q9b, hq9b⟩ : ∃ r, rvB ⟨P7a, Q7a, G7a⟩ l7b x7c l7d l7e = r := ⟨_, rfl⟩
  have Hq9b := Lib.hid hq9b
  rw [hq9b]
  clear hq9b
  replace HB := Lib.hid (Below.next HB.out hb)
  replace HZ1 := Lib.hid (HZ1.out.below hb)
  replace HZ2 := Lib.hid (HZ2.out.below hb)
  replace HZ3 := Lib.hid (HZ3.out.below hb)
  replace HZ4 := Lib.hid (HZ4.out.below hb)
  replace HL1b := Lib.hid (HL1b.out.below hb)
  replace HL1c := Lib.hid (HL1c.out.below hb)
  replace HL1d := Lib.hid (HL1d.out.below hb)
  replace HL3a := Lib.hid (HL3a.out.below hb)
  replace HL3b := Lib.hid (HL3b.out.below hb)
  replace HL3l := Lib.hid (HL3l.out.below hb)
  replace HL5a := Lib.hid (HL5a.out.below hb)
  replace HL5b := Lib.hid (HL5b.out.below hb)
  replace HL5l := Lib.hid (HL5l.out.below hb)
  replace HL7b := Lib.hid (HL7b.out.below hb)
  replace HL7d := Lib.hid (HL7d.out.below hb)
  replace HL7e := Lib.hid (HL7e.out.below hb)
  clear hb
  have z_0_0 := HZ1.out.cell (i := 0) rfl
  have z_0_1 := HZ1.out.cell (i := 1) rfl
  have z_0_2 := HZ1.out.cell (i := 2) rfl
  have z_1_0 := HZ2.out.cell (i := 0) rfl
  have z_1_1 := HZ2.out.cell (i := 1) rfl
  have z_2_0 := HZ3.out.cell (i := 0) rfl
  have z_2_1 := HZ3.out.cell (i := 1) rfl
  have z_3_0 := HZ4.out.cell (i := 0) rfl
  have z_3_1 := HZ4.out.cell (i := 1) rfl
  have z_3_2 := HZ4.out.cell (i := 2) rfl
  try (go_wp2_with fail)
  clear z_0_0 z_0_1 z_0_2 z_1_0 z_1_1 z_2_0 z_2_1 z_3_0 z_3_1 z_3_2
  refine (spec_RecoverShare ⟨P7a, Q7a, G7a⟩ _ l7b x7c _ l7d _ l7e _ HL7b.out HL7d.out HL7e.out).mono ?_
  rintro e u10 ⟨rfl, hb⟩
  rw [Hr9a.out]
  rw [Hq9b.out]
  replace HB := Lib.hid (Below.next HB.out hb)
  replace HZ1 := Lib.hid (HZ1.out.below hb)
  replace HZ2 := Lib.hid (HZ2.out.below hb)
  replace HZ3 := Lib.hid (HZ3.out.below hb)
  replace HZ4 := Lib.hid (HZ4.out.below hb)
  replace HL1b := Lib.hid (HL1b.out.below hb)
  replace HL1c := Lib.hid (HL1c.out.below hb)
  replace HL1d := Lib.hid (HL1d.out.below hb)
  replace HL3a := Lib.hid (HL3a.out.below hb)
  replace HL3b := Lib.hid (HL3b.out.below hb)
  replace HL3l := Lib.hid (HL3l.out.below hb)
  replace HL5a := Lib.hid (HL5a.out.below hb)
  replace HL5b := Lib.hid (HL5b.out.below hb)
  replace HL5l := Lib.hid (HL5l.out.below hb)
  replace HL7b := Lib.hid (HL7b.out.below hb)
  replace HL7d := Lib.hid (HL7d.out.below hb)
  replace HL7e := Lib.hid (HL7e.out.below hb)
  clear hb
  have eq_q3 : (q3 == q3) = true := by simp
  have z_0_0 := HZ1.out.cell (i := 0) rfl
  have z_0_1 := HZ1.out.cell (i := 1) rfl
  have z_0_2 := HZ1.out.cell (i := 2) rfl
  have z_1_0 := HZ2.out.cell (i := 0) rfl
  have z_1_1 := HZ2.out.cell (i := 1) rfl
  have z_2_0 := HZ3.out.cell (i := 0) rfl
  have z_2_1 := HZ3.out.cell (i := 1) rfl
  have z_3_0 := HZ4.out.cell (i := 0) rfl
  have z_3_1 := HZ4.out.cell (i := 1) rfl
  have z_3_2 := HZ4.out.cell (i := 2) rfl
  try (go_wp2_with fail)
  clear z_0_0 z_0_1 z_0_2 z_1_0 z_1_1 z_2_0 z_2_1 z_3_0 z_3_1 z_3_2
  refine (laws_qInts _ _ D3.c _ HL3a.out HL5a.out).mono ?_
  rintro e u11 ⟨rfl, hb⟩
  replace HB := Lib.hid (Below.next HB.out hb)
  replace HZ1 := Lib.hid (HZ1.out.below hb)
  replace HZ2 := Lib.hid (HZ2.out.below hb)
  replace HZ3 := Lib.hid (HZ3.out.below hb)
  replace HZ4 := Lib.hid (HZ4.out.below hb)
  replace HL1b := Lib.hid (HL1b.out.below hb)
  replace HL1c := Lib.hid (HL1c.out.below hb)
  replace HL1d := Lib.hid (HL1d.out.below hb)
  replace HL3a := Lib.hid (HL3a.out.below hb)
  replace HL3b := Lib.hid (HL3b.out.below hb)
  replace HL3l := Lib.hid (HL3l.out.below hb)
  replace HL5a := Lib.hid (HL5a.out.below hb)
  replace HL5b := Lib.hid (HL5b.out.below hb)
  replace HL5l := Lib.hid (HL5l.out.below hb)
  replace HL7b := Lib.hid (HL7b.out.below hb)
  replace HL7d := Lib.hid (HL7d.out.below hb)
  replace HL7e := Lib.hid (HL7e.out.below hb)
  clear hb
  have z_0_0 := HZ1.out.cell (i := 0) rfl
  have z_0_1 := HZ1.out.cell (i := 1) rfl
  have z_0_2 := HZ1.out.cell (i := 2) rfl
  have z_1_0 := HZ2.out.cell (i := 0) rfl
  have z_1_1 := HZ2.out.cell (i := 1) rfl
  have z_2_0 := HZ3.out.cell (i := 0) rfl
  have z_2_1 := HZ3.out.cell (i := 1) rfl
  have z_3_0 := HZ4.out.cell (i := 0) rfl
  have z_3_1 := HZ4.out.cell (i := 1) rfl
  have z_3_2 := HZ4.out.cell (i := 2) rfl
  try (go_wp2_with fail)
  clear z_0_0 z_0_1 z_0_2 z_1_0 z_1_1 z_2_0 z_2_1 z_3_0 z_3_1 z_3_2
  refine (laws_qInts _ _ D3.s _ HL3b.out HL5b.out).mono ?_
  rintro e u12 ⟨rfl, hb⟩
  replace HB := Lib.hid (Below.next HB.out hb)
  replace HZ1 := Lib.hid (HZ1.out.below hb)
  replace HZ2 := Lib.hid (HZ2.out.below hb)
  replace HZ3 := Lib.hid (HZ3.out.below hb)
  replace HZ4 := Lib.hid (HZ4.out.below hb)
  replace HL1b := Lib.hid (HL1b.out.below hb)
  replace HL1c := Lib.hid (HL1c.out.below hb)
  replace HL1d := Lib.hid (HL1d.out.below hb)
  replace HL3a := Lib.hid (HL3a.out.below hb)
  replace HL3b := Lib.hid (HL3b.out.below hb)
  replace HL3l := Lib.hid (HL3l.out.below hb)
  replace HL5a := Lib.hid (HL5a.out.below hb)
  replace HL5b := Lib.hid (HL5b.out.below hb)
  replace HL5l := Lib.hid (HL5l.out.below hb)
  replace HL7b := Lib.hid (HL7b.out.below hb)
  replace HL7d := Lib.hid (HL7d.out.below hb)
  replace HL7e := Lib.hid (HL7e.out.below hb)
  clear hb
  have z_0_0 := HZ1.out.cell (i := 0) rfl
  have z_0_1 := HZ1.out.cell (i := 1) rfl
  have z_0_2 := HZ1.out.cell (i := 2) rfl
  have z_1_0 := HZ2.out.cell (i := 0) rfl
  have z_1_1 := HZ2.out.cell (i := 1) rfl
  have z_2_0 := HZ3.out.cell (i := 0) rfl
  have z_2_1 := HZ3.out.cell (i := 1) rfl
  have z_3_0 := HZ4.out.cell (i := 0) rfl
  have z_3_1 := HZ4.out.cell (i := 1) rfl
  have z_3_2 := HZ4.out.cell (i := 2) rfl
  try (go_wp2_with fail)
  clear z_0_0 z_0_1 z_0_2 z_1_0 z_1_1 z_2_0 z_2_1 z_3_0 z_3_1 z_3_2
  refine (laws_qInts _ _ (rsL ⟨P1a, Q1a, G1a⟩ l1b l1c l1d) _ HL3l.out HL5l.out).mono ?_
  rintro e u13 ⟨rfl, hb⟩
  replace HB := Lib.hid (Below.next HB.out hb)
  replace HZ1 := Lib.hid (HZ1.out.below hb)
  replace HZ2 := Lib.hid (HZ2.out.below hb)
  replace HZ3 := Lib.hid (HZ3.out.below hb)
  replace HZ4 := Lib.hid (HZ4.out.below hb)
  replace HL1b := Lib.hid (HL1b.out.below hb)
  replace HL1c := Lib.hid (HL1c.out.below hb)
  replace HL1d := Lib.hid (HL1d.out.below hb)
  replace HL3a := Lib.hid (HL3a.out.below hb)
  replace HL3b := Lib.hid (HL3b.out.below hb)
  replace HL3l := Lib.hid (HL3l.out.below hb)
  replace HL5a := Lib.hid (HL5a.out.below hb)
  replace HL5b := Lib.hid (HL5b.out.below hb)
  replace HL5l := Lib.hid (HL5l.out.below hb)
  replace HL7b := Lib.hid (HL7b.out.below hb)
  replace HL7d := Lib.hid (HL7d.out.below hb)
  replace HL7e := Lib.hid (HL7e.out.below hb)
  clear hb
  have eq_q9b : (q9b == q9b) = true := by simp
  have eq_r9a : (r9a == r9a) = true := by simp
  cases q9b with
  | false =>
    cases q3 with
    | false =>
      have z_0_0 := HZ1.out.cell (i := 0) rfl
      have z_0_1 := HZ1.out.cell (i := 1) rfl
      have z_0_2 := HZ1.out.cell (i := 2) rfl
      have z_1_0 := HZ2.out.cell (i := 0) rfl
      have z_1_1 := HZ2.out.cell (i := 1) rfl
      have z_2_0 := HZ3.out.cell (i := 0) rfl
      have z_2_1 := HZ3.out.cell (i := 1) rfl
      have z_3_0 := HZ4.out.cell (i := 0) rfl
      have z_3_1 := HZ4.out.cell (i := 1) rfl
      have z_3_2 := HZ4.out.cell (i := 2) rfl
      try (go_wp2_with fail)
      clear z_0_0 z_0_1 z_0_2 z_1_0 z_1_1 z_2_0 z_2_1 z_3_0 z_3_1 z_3_2
      go_ret
      exact ⟨rfl, HB.out⟩
    | true =>
      obtain ⟨t1, t2, t3, t4, t5⟩ := rs_facts Hq3.out HD3.out
      have HVD := Lib.hid t1
      have HBE := Lib.hid t2
      have HLD : Hid (0 < (D3).c.length) := t4
      have HLK : Hid (0 < (l1b).length) := t5
      obtain ⟨y0, hy0⟩ : ∃ y, nth l1b 0 = y := ⟨_, rfl⟩
      have Hy0 := Lib.hid hy0
      have Hy1 : Hid (nth D3.c 0 = y0) := by unfold Hid; rw [t3]; exact hy0
      clear t1 t2 t3 t4 t5 hy0
      have z_0_0 := HZ1.out.cell (i := 0) rfl
      have z_0_1 := HZ1.out.cell (i := 1) rfl
      have z_0_2 := HZ1.out.cell (i := 2) rfl
      have z_1_0 := HZ2.out.cell (i := 0) rfl
      have z_1_1 := HZ2.out.cell (i := 1) rfl
      have z_2_0 := HZ3.out.cell (i := 0) rfl
      have z_2_1 := HZ3.out.cell (i := 1) rfl
      have z_3_0 := HZ4.out.cell (i := 0) rfl
      have z_3_1 := HZ4.out.cell (i := 1) rfl
      have z_3_2 := HZ4.out.cell (i := 2) rfl
      try (go_wp2_with fail)
      clear z_0_0 z_0_1 z_0_2 z_1_0 z_1_1 z_2_0 z_2_1 z_3_0 z_3_1 z_3_2
      refine (impl_IsRightKey ⟨P1a, Q1a, G1a⟩ _ D3 _ (DlR.mk HL3a.out HL3b.out)).mono ?_
      rintro e u14 ⟨rfl, hb⟩
      rw [HVD.out, HBE.out, Bool.true_and]
      replace HB := Lib.hid (Below.next HB.out hb)
      replace HZ1 := Lib.hid (HZ1.out.below hb)
      replace HZ2 := Lib.hid (HZ2.out.below hb)
      replace HZ3 := Lib.hid (HZ3.out.below hb)
      replace HZ4 := Lib.hid (HZ4.out.below hb)
      replace HL1b := Lib.hid (HL1b.out.below hb)
      replace HL1c := Lib.hid (HL1c.out.below hb)
      replace HL1d := Lib.hid (HL1d.out.below hb)
      replace HL3a := Lib.hid (HL3a.out.below hb)
      replace HL3b := Lib.hid (HL3b.out.below hb)
      replace HL3l := Lib.hid (HL3l.out.below hb)
      replace HL5a := Lib.hid (HL5a.out.below hb)
      replace HL5b := Lib.hid (HL5b.out.below hb)
      replace HL5l := Lib.hid (HL5l.out.below hb)
      replace HL7b := Lib.hid (HL7b.out.below hb)
      replace HL7d := Lib.hid (HL7d.out.below hb)
      replace HL7e := Lib.hid (HL7e.out.below hb)
      clear hb
      have z_0_0 := HZ1.out.cell (i := 0) rfl
      have z_0_1 := HZ1.out.cell (i := 1) rfl
      have z_0_2 := HZ1.out.cell (i := 2) rfl
      have z_1_0 := HZ2.out.cell (i := 0) rfl
      have z_1_1 := HZ2.out.cell (i := 1) rfl
      have z_2_0 := HZ3.out.cell (i := 0) rfl
      have z_2_1 := HZ3.out.cell (i := 1) rfl
      have z_3_0 := HZ4.out.cell (i := 0) rfl
      have z_3_1 := HZ4.out.cell (i := 1) rfl
      have z_3_2 := HZ4.out.cell (i := 2) rfl
      go_wp2_with fail
      clear z_0_0 z_0_1 z_0_2 z_1_0 z_1_1 z_2_0 z_2_1 z_3_0 z_3_1 z_3_2
      obtain ⟨ca, co, hca, hcp⟩ := HL3a.out.at_ (by have := HLD.out; have := HE3a.out; omega)
      have yc := hcp 0 (by have := HLD.out; have := HE3a.out; omega)
      rw [Hy1.out, Nat.add_zero] at yc
      have hca' := hca
      subst hca'
      clear hca hcp
      obtain ⟨da, dd, hda, hdp⟩ := HL1b.out.at_ (by have := HLK.out; have := HE1b.out; omega)
      have yd := hdp 0 (by have := HLK.out; have := HE1b.out; omega)
      rw [Hy0.out, Nat.add_zero] at yd
      have hda' := hda
      subst hda'
      clear hda hdp
      have hn1 : 0 < n3a := by have := HLD.out; have := HE3a.out; omega
      have hn2 : 0 < n1b := by have := HLK.out; have := HE1b.out; omega
      have hz1 : (0 : Int) < (n3a : Int) := by omega
      have hz2 : (0 : Int) < (n1b : Int) := by omega
      have hyy : (y0 == y0) = true := by simp
      have zc := HZ2.out.cell (i := 0) rfl
      have HCC : Hid (∀ w', Below u14.heap.size u14 w' → w'.cell? ⟨u3.heap.size, 0, none⟩ = some (.slice (some ⟨ca, co, none⟩) n3a c3a) ∧ w'.cell? ⟨ca, co, none⟩ = some (.int .i64 y0) ∧ w'.cell? ⟨da, dd, none⟩ = some (.int .i64 y0)) := fun w' h => ⟨box_at zc h, box_at yc h, box_at yd h⟩
      clear zc yc yd
      refine wp_region_noPanic ?_
      refine wp_region_V (fun w' => w'.cell? ⟨u3.heap.size, 0, none⟩ = some (.slice (some ⟨ca, co, none⟩) n3a c3a) ∧ w'.cell? ⟨ca, co, none⟩ = some (.int .i64 y0) ∧ w'.cell? ⟨da, dd, none⟩ = some (.int .i64 y0)) 17 14 (.rd 0 (.rd 1 (.rd 2 (.rd 3 (.rd 4 (.rd 5 (.rd 6 (.rd 7 (.rd 8 (.rd 9 (.rd 10 (.rd 11 (.rd 12 (.rd 13 .done)))))))))))))) [14] (by kernel_rfl) (by kernel_rfl) rfl (fun _ _ _ _ _ h => h) (HCC.out _ (Below.refl _ _).drew) ?_
      simp only [pickV, pickN, List.getElem?_cons_zero, List.getElem?_cons_succ]
      repeat (refine' wpV_read _ (by kernel_rfl) (fun w' hS' => ?_) ?_; rotate_left; · ((try dsimp only at hS'); go_simp; (try with_reducible rfl)); (try simp only [Act.put, List.setIfInBounds_toArray, List.set_cons_zero, List.set_cons_succ]))
      have hbd : Below u14.heap.size u14 u14.drew := (Below.refl _ _).drew
      refine wpV_done ?_
      go_wp2_with fail
      refine NoPanic.normal ?_
      go_wp2_with fail
      go_ret
      exact ⟨rfl, Below.next HB.out hbd⟩
  | true =>
    have HCK := Lib.hid (rv_right Hq9b.out Hr9a.out)
    have z_0_0 := HZ1.out.cell (i := 0) rfl
    have z_0_1 := HZ1.out.cell (i := 1) rfl
    have z_0_2 := HZ1.out.cell (i := 2) rfl
    have z_1_0 := HZ2.out.cell (i := 0) rfl
    have z_1_1 := HZ2.out.cell (i := 1) rfl
    have z_2_0 := HZ3.out.cell (i := 0) rfl
    have z_2_1 := HZ3.out.cell (i := 1) rfl
    have z_3_0 := HZ4.out.cell (i := 0) rfl
    have z_3_1 := HZ4.out.cell (i := 1) rfl
    have z_3_2 := HZ4.out.cell (i := 2) rfl
    try (go_wp2_with fail)
    clear z_0_0 z_0_1 z_0_2 z_1_0 z_1_1 z_2_0 z_2_1 z_3_0 z_3_1 z_3_2
    refine (impl_CheckShare ⟨P7a, Q7a, G7a⟩ _ l7b x7c r9a _ HL7b.out hi7c (by rw [← Hr9a.out]; exact rv_64 ⟨P7a, Q7a, G7a⟩ l7b x7c l7d l7e)).mono ?_
    rintro e u14 ⟨rfl, hb⟩
    rw [HCK.out.1, HCK.out.2]
    replace HB := Lib.hid (Below.next HB.out hb)
    replace HZ1 := Lib.hid (HZ1.out.below hb)
    replace HZ2 := Lib.hid (HZ2.out.below hb)
    replace HZ3 := Lib.hid (HZ3.out.below hb)
    replace HZ4 := Lib.hid (HZ4.out.below hb)
    replace HL1b := Lib.hid (HL1b.out.below hb)
    replace HL1c := Lib.hid (HL1c.out.below hb)
    replace HL1d := Lib.hid (HL1d.out.below hb)
    replace HL3a := Lib.hid (HL3a.out.below hb)
    replace HL3b := Lib.hid (HL3b.out.below hb)
    replace HL3l := Lib.hid (HL3l.out.below hb)
    replace HL5a := Lib.hid (HL5a.out.below hb)
    replace HL5b := Lib.hid (HL5b.out.below hb)
    replace HL5l := Lib.hid (HL5l.out.below hb)
    replace HL7b := Lib.hid (HL7b.out.below hb)
    replace HL7d := Lib.hid (HL7d.out.below hb)
    replace HL7e := Lib.hid (HL7e.out.below hb)
    clear hb
    cases q3 with
    | false =>
      have z_0_0 := HZ1.out.cell (i := 0) rfl
      have z_0_1 := HZ1.out.cell (i := 1) rfl
      have z_0_2 := HZ1.out.cell (i := 2) rfl
      have z_1_0 := HZ2.out.cell (i := 0) rfl
      have z_1_1 := HZ2.out.cell (i := 1) rfl
      have z_2_0 := HZ3.out.cell (i := 0) rfl
      have z_2_1 := HZ3.out.cell (i := 1) rfl
      have z_3_0 := HZ4.out.cell (i := 0) rfl
      have z_3_1 := HZ4.out.cell (i := 1) rfl
      have z_3_2 := HZ4.out.cell (i := 2) rfl
      try (go_wp2_with fail)
      clear z_0_0 z_0_1 z_0_2 z_1_0 z_1_1 z_2_0 z_2_1 z_3_0 z_3_1 z_3_2
      go_ret
      exact ⟨rfl, HB.out⟩
    | true =>
      obtain ⟨t1, t2, t3, t4, t5⟩ := rs_facts Hq3.out HD3.out
      have HVD := Lib.hid t1
      have HBE := Lib.hid t2
      have HLD : Hid (0 < (D3).c.length) := t4
      have HLK : Hid (0 < (l1b).length) := t5
      obtain ⟨y0, hy0⟩ : ∃ y, nth l1b 0 = y := ⟨_, rfl⟩
      have Hy0 := Lib.hid hy0
      have Hy1 : Hid (nth D3.c 0 = y0) := by unfold Hid; rw [t3]; exact hy0
      clear t1 t2 t3 t4 t5 hy0
      have z_0_0 := HZ1.out.cell (i := 0) rfl
      have z_0_1 := HZ1.out.cell (i := 1) rfl
      have z_0_2 := HZ1.out.cell (i := 2) rfl
      have z_1_0 := HZ2.out.cell (i := 0) rfl
      have z_1_1 := HZ2.out.cell (i := 1) rfl
      have z_2_0 := HZ3.out.cell (i := 0) rfl
      have z_2_1 := HZ3.out.cell (i := 1) rfl
      have z_3_0 := HZ4.out.cell (i := 0) rfl
      have z_3_1 := HZ4.out.cell (i := 1) rfl
      have z_3_2 := HZ4.out.cell (i := 2) rfl
      try (go_wp2_with fail)
      clear z_0_0 z_0_1 z_0_2 z_1_0 z_1_1 z_2_0 z_2_1 z_3_0 z_3_1 z_3_2
      refine (impl_IsRightKey ⟨P1a, Q1a, G1a⟩ _ D3 _ (DlR.mk HL3a.out HL3b.out)).mono ?_
      rintro e u15 ⟨rfl, hb⟩
      rw [HVD.out, HBE.out, Bool.true_and]
      replace HB := Lib.hid (Below.next HB.out hb)
      replace HZ1 := Lib.hid (HZ1.out.below hb)
      replace HZ2 := Lib.hid (HZ2.out.below hb)
      replace HZ3 := Lib.hid (HZ3.out.below hb)
      replace HZ4 := Lib.hid (HZ4.out.below hb)
      replace HL1b := Lib.hid (HL1b.out.below hb)
      replace HL1c := Lib.hid (HL1c.out.below hb)
      replace HL1d := Lib.hid (HL1d.out.below hb)
      replace HL3a := Lib.hid (HL3a.out.below hb)
      replace HL3b := Lib.hid (HL3b.out.below hb)
      replace HL3l := Lib.hid (HL3l.out.below hb)
      replace HL5a := Lib.hid (HL5a.out.below hb)
      replace HL5b := Lib.hid (HL5b.out.below hb)
      replace HL5l := Lib.hid (HL5l.out.below hb)
      replace HL7b := Lib.hid (HL7b.out.below hb)
      replace HL7d := Lib.hid (HL7d.out.below hb)
      replace HL7e := Lib.hid (HL7e.out.below hb)
      clear hb
      have z_0_0 := HZ1.out.cell (i := 0) rfl
      have z_0_1 := HZ1.out.cell (i := 1) rfl
      have z_0_2 := HZ1.out.cell (i := 2) rfl
      have z_1_0 := HZ2.out.cell (i := 0) rfl
      have z_1_1 := HZ2.out.cell (i := 1) rfl
      have z_2_0 := HZ3.out.cell (i := 0) rfl
      have z_2_1 := HZ3.out.cell (i := 1) rfl
      have z_3_0 := HZ4.out.cell (i := 0) rfl
      have z_3_1 := HZ4.out.cell (i := 1) rfl
      have z_3_2 := HZ4.out.cell (i := 2) rfl
      go_wp2_with fail
      clear z_0_0 z_0_1 z_0_2 z_1_0 z_1_1 z_2_0 z_2_1 z_3_0 z_3_1 z_3_2
      obtain ⟨ca, co, hca, hcp⟩ := HL3a.out.at_ (by have := HLD.out; have := HE3a.out; omega)
      have yc := hcp 0 (by have := HLD.out; have := HE3a.out; omega)
      rw [Hy1.out, Nat.add_zero] at yc
      have hca' := hca
      subst hca'
      clear hca hcp
      obtain ⟨da, dd, hda, hdp⟩ := HL1b.out.at_ (by have := HLK.out; have := HE1b.out; omega)
      have yd := hdp 0 (by have := HLK.out; have := HE1b.out; omega)
      rw [Hy0.out, Nat.add_zero] at yd
      have hda' := hda
      subst hda'
      clear hda hdp
      have hn1 : 0 < n3a := by have := HLD.out; have := HE3a.out; omega
      have hn2 : 0 < n1b := by have := HLK.out; have := HE1b.out; omega
      have hz1 : (0 : Int) < (n3a : Int) := by omega
      have hz2 : (0 : Int) < (n1b : Int) := by omega
      have hyy : (y0 == y0) = true := by simp
      have zc := HZ2.out.cell (i := 0) rfl
      have HCC : Hid (∀ w', Below u15.heap.size u15 w' → w'.cell? ⟨u3.heap.size, 0, none⟩ = some (.slice (some ⟨ca, co, none⟩) n3a c3a) ∧ w'.cell? ⟨ca, co, none⟩ = some (.int .i64 y0) ∧ w'.cell? ⟨da, dd, none⟩ = some (.int .i64 y0)) := fun w' h => ⟨box_at zc h, box_at yc h, box_at yd h⟩
      clear zc yc yd
      refine wp_region_noPanic ?_
      refine wp_region_V (fun w' => w'.cell? ⟨u3.heap.size, 0, none⟩ = some (.slice (some ⟨ca, co, none⟩) n3a c3a) ∧ w'.cell? ⟨ca, co, none⟩ = some (.int .i64 y0) ∧ w'.cell? ⟨da, dd, none⟩ = some (.int .i64 y0)) 17 14 (.rd 0 (.rd 1 (.rd 2 (.rd 3 (.rd 4 (.rd 5 (.rd 6 (.rd 7 (.rd 8 (.rd 9 (.rd 10 (.rd 11 (.rd 12 (.rd 13 .done)))))))))))))) [14] (by kernel_rfl) (by kernel_rfl) rfl (fun _ _ _ _ _ h => h) (HCC.out _ (Below.refl _ _).drew) ?_
      simp only [pickV, pickN, List.getElem?_cons_zero, List.getElem?_cons_succ]
      repeat (refine' wpV_read _ (by kernel_rfl) (fun w' hS' => ?_) ?_; rotate_left; · ((try dsimp only at hS'); go_simp; (try with_reducible rfl)); (try simp only [Act.put, List.setIfInBounds_toArray, List.set_cons_zero, List.set_cons_succ]))
      have hbd : Below u15.heap.size u15 u15.drew := (Below.refl _ _).drew
      refine wpV_done ?_
      go_wp2_with fail
      refine NoPanic.normal ?_
      go_wp2_with fail
      go_ret
      exact ⟨rfl, Below.next HB.out hbd⟩
end Go.Proofs.YtacpnphfopmofaaGreat
/- From a walk of a law to its row: whatever the arguments, the law returns true and nothing that was there has turned. -/







namespace Go.Proofs.YtacpnphfopmofaaGreat
open Go.ChangeShapes Go.WideShapes Go.ChangeAt Go.RowKit

theorem ownKnob_none : ownKnob Tryz.prog.godebug = none := by kernel_rfl
theorem laid_out : laidOutB Tryz.prog = true := by kernel_rfl

section
variable {H : Type} {enc : TypeId × Value → H} {P : Program}

theorem trodAll_below (hl : laidOutB P = true) {W W' : World} (hb : Below W.heap.size W W') :
    ∀ (ts : List TypeId) (vs : List Value) (ds : List (DataW H)) (ps : List MemPlace), (∀ t ∈ ts, P.readableRec t = true ∧ t < P.types.size) →
      DataW.TrodAll enc P W 0 (fun _ => true) true ts vs ds ps → (∀ x ∈ ps, x.block < W.heap.size) →
      ∀ sp : Nat → Bool, (∀ p ∈ ps, sp p.block = true) → DataW.TrodAll enc P W' 0 sp true ts vs ds ps
  | [], vs, ds, ps, _, h, _, sp, _ => by
    obtain ⟨rfl, rfl, rfl⟩ := trodAll_nil h
    exact trodAll_mk0
  | t :: ts, vs, ds, ps, ht, h, hlt, sp, hsp => by
    obtain ⟨v0, vs0, d0, ds0, p0, q0, rfl, rfl, rfl, h0, r0⟩ := trodAll_cons h
    refine trodAll_cons_mk ?_ (trodAll_below hl hb ts vs0 ds0 q0 (fun t' h' => ht t' (by simp [h'])) r0 (fun x hx => hlt x (by simp [hx])) sp (fun x hx => hsp x (by simp [hx])))
    exact WideElems.Trod_stays hl (ht t (by simp)).1 (ht t (by simp)).2 h0 (fun x hx => hb.same (hlt x (by simp [hx]))) (fun x hx => hsp x (by simp [hx]))

theorem post_law {f : Func} {s : ChangeSpec} {tb : TypeId} {W W' : World} {args : Array Value} {ds gs : List (DataW H)} {before : List MemPlace}
    (hl : laidOutB P = true) (hpB : f.params.toList.all (fun t => P.readableRec t && decide (t < P.types.size)) = true) (hrt : f.resultTypes = #[tb]) (htb : P.underlying tb = some .bool)
    (hvars : s.vars = []) (hW : DataW.Whole enc P f.params.toList s.vars false W args.toList ds gs before)
    (hfn : s.fn H ds = { results := [.lit (.bool true)], args := ds }) (hb : Below W.heap.size W W') :
    s.post enc P f false true false false W args (.bool true) W' := by
  have hp : ∀ t ∈ f.params.toList, P.readableRec t = true ∧ t < P.types.size := fun t ht => by simpa using List.all_eq_true.1 hpB t ht
  have hlt : ∀ x ∈ before, x.block < W.heap.size := fun x hx => by simpa using hW.lt x hx
  have hW' := hW
  obtain ⟨p, q, hA0, hV, rfl, hfz, hnd⟩ := hW
  rw [hvars] at hV
  obtain ⟨rfl, rfl⟩ := trodVars_none hV
  have e : s.fn H (ds ++ []) = { results := [.lit (.bool true)], args := ds } := by rw [List.append_nil]; exact hfn
  have hargs := trodAll_below (enc := enc) hl hb f.params.toList args.toList ds p hp hA0 (fun x hx => hlt x (by simp [hx]))
  refine ⟨ds, [], p ++ [], [], p, [], hW', ?_, ?_, ?_, ?_, fun h => by cases h⟩
  · rw [e, hrt]
    exact trodAll_cons_mk (shut_bool htb true) trodAll_mk0
  · rw [e]
    exact hargs _ (fun x hx => by simpa using hlt x (by simp [hx]))
  · rw [e, hvars]
    rfl
  · exact hb.frame _
end


section
variable {H : Type} {enc : TypeId × Value → H} {P : Program} {w : World} {base : Nat} {spare : Nat → Bool} {held : Bool}
open Go.Joins Go.Deep
end

section
variable {H : Type} {enc : TypeId × Value → H} {w : World} {base : Nat} {spare : Nat → Bool} {held : Bool}
theorem addr_of_cell {w : World} {a : Addr} {v : Value} (h : w.cell? a = some v) : a = ⟨a.block, a.off, none⟩ := by
  obtain ⟨b, o, s⟩ := a
  cases s with
  | none => rfl
  | some x =>
    unfold World.cell? at h
    split at h <;> simp at h
end
end Go.Proofs.YtacpnphfopmofaaGreat
/- Arguments that are slices of structs. -/


namespace Go.Proofs.YtacpnphfopmofaaGreat
open Go.ChangeShapes Go.WideShapes Go.ChangeAt Go.RowKit
set_option linter.unusedVariables false

end Go.Proofs.YtacpnphfopmofaaGreat
/- Arguments of type laws.Proof (printed by genarg.py). -/


namespace Go.Proofs.YtacpnphfopmofaaGreat
open Go.ChangeShapes Go.WideShapes Go.ChangeAt Go.RowKit
set_option linter.unusedVariables false
set_option linter.unusedSimpArgs false

section
variable {H : Type} {enc : TypeId × Value → H} {w : World} {base : Nat} {spare : Nat → Bool} {held : Bool}
open Go.Joins Go.Deep
end
end Go.Proofs.YtacpnphfopmofaaGreat
/- Arguments of type laws.Head (printed by genarg.py). -/



namespace Go.Proofs.YtacpnphfopmofaaGreat
open Go.ChangeShapes Go.WideShapes Go.ChangeAt Go.RowKit
set_option linter.unusedVariables false
set_option linter.unusedSimpArgs false

section
variable {H : Type} {enc : TypeId × Value → H} {w : World} {base : Nat} {spare : Nat → Bool} {held : Bool}
open Go.Joins Go.Deep
end
end Go.Proofs.YtacpnphfopmofaaGreat
/- Arguments of type laws.Entry (printed by genarg.py). -/



namespace Go.Proofs.YtacpnphfopmofaaGreat
open Go.ChangeShapes Go.WideShapes Go.ChangeAt Go.RowKit
set_option linter.unusedVariables false
set_option linter.unusedSimpArgs false

section
variable {H : Type} {enc : TypeId × Value → H} {w : World} {base : Nat} {spare : Nat → Bool} {held : Bool}
open Go.Joins Go.Deep
end
end Go.Proofs.YtacpnphfopmofaaGreat
/- Arguments of type laws.Group. -/


namespace Go.Proofs.YtacpnphfopmofaaGreat
open Go.ChangeShapes Go.WideShapes Go.ChangeAt Go.RowKit
set_option linter.unusedVariables false

section
variable {H : Type} {enc : TypeId × Value → H} {w : World} {base : Nat} {spare : Nat → Bool} {held : Bool}
open Go.Joins Go.Deep
end
end Go.Proofs.YtacpnphfopmofaaGreat
namespace Go.Proofs.YtacpnphfopmofaaGreat
open Go.ChangeShapes Go.WideShapes Go.ChangeAt Go.RowKit
set_option linter.unusedVariables false

section
variable {H : Type} {enc : TypeId × Value → H} {w : World} {base : Nat} {spare : Nat → Bool} {held : Bool}
theorem cells_byte : Tryz.prog.cellsOf 5 = 1 := by kernel_rfl
theorem wf_u8 {x : Int} (h : (Lit.int .u8 x).wf = true) : 0 ≤ x ∧ x ≤ 255 := by
  simpa [Lit.wf, IntKind.min, IntKind.max, IntKind.signed, IntKind.bits] using h
set_option maxRecDepth 100000 in
theorem bytes_of_trod {n : Nat} {v : Value} {y : DataW H × List MemPlace} (h : DataW.trod enc Tryz.prog w base spare held n 22 [v] = some y) : Bytes w v := by
  rcases open_ints Tryz.underlying22 Tryz.underlying5 cells_byte h with ⟨hcs, _⟩ | ⟨a, len, cap, zs, hcs, _, hl, hm, hz, _, hcell, hwz⟩
  · simp at hcs; subst hcs; exact ⟨none, 0, 0, rfl, Nat.le_refl _, Nat.zero_le _, .inl rfl⟩
  · simp only [List.cons.injEq, and_true] at hcs; subst hcs
    have hle : len ≤ zs.length := by rw [hz]; split <;> omega
    refine ⟨some a, len, cap, rfl, hl, hm, ?_⟩
    rcases Nat.eq_zero_or_pos len with h0 | h0
    · exact .inl h0
    · have hc0 := hcell 0 (by omega)
      have e : a.add 0 = a := by simp [Addr.add]
      rw [e] at hc0
      have ea := addr_of_cell hc0
      refine .inr ⟨a.block, a.off, by rw [← ea], fun i hi => ?_⟩
      have h1 := hcell i (by omega)
      rw [ea, Addr.add_lit] at h1
      refine ⟨_, h1, ?_⟩
      have h2 := hwz (zs.getD i 0) (by rw [List.getD_eq_getElem?_getD, List.getElem?_eq_getElem (by omega)]; exact List.getElem_mem _)
      exact wf_u8 h2
set_option maxRecDepth 100000 in
theorem bytes_of_arg {r : Reach} {b0 : Nat} {v : Value} {d : DataW H} {p : List MemPlace} (hv : Value.okWide Tryz.prog w r b0 22 v) (h : DataW.Trod enc Tryz.prog w base spare held 22 v d p) : Bytes w v := by
  obtain ⟨a, n, c, rfl⟩ := okWide_slice Tryz.underlying22 hv
  obtain ⟨fuel, hf⟩ := h
  exact bytes_of_trod (by simpa [Value.cells] using hf)
end
end Go.Proofs.YtacpnphfopmofaaGreat
