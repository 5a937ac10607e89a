/- The walk of FnReencryption (printed by gen_lawre.py). -/
import Derived.Test.YtboahnklilmdpaaDrC2
import Derived.Test.YtboahnklilmdpaaCip8
import Derived.Test.YtboahnklilmdpaaRegR
namespace Go.Proofs.Ytboahnklilmdpaa
open Go.RowKit
set_option linter.unusedSimpArgs false
set_option linter.unusedVariables false

theorem raB_parts {gr : GroupD} {key : Int} {l : List CipherD} {rs : List Int} (h : raB gr key l rs = true) : goodG gr = true ∧ elB gr key = true ∧ (∀ c ∈ l, ciB gr c = true) ∧ rs.length = l.length ∧ (∀ r ∈ rs, expB gr r = true) := by
  unfold raB cisB at h
  simp only [Bool.and_eq_true, decide_eq_true_iff, List.all_eq_true] at h
  exact ⟨h.1.1, h.1.2, h.2.1.2, h.2.2.1, h.2.2.2⟩
theorem raR_get {gr : GroupD} {key : Int} {l : List CipherD} {rs : List Int} (h : raB gr key l rs = true) {k : Nat} (hk : k < l.length) : ∃ hk' : k < (raR gr key l rs).length, (raR gr key l rs)[k] = reC gr key l[k] (nth rs k) := by
  have hp := raB_parts h
  have e : raR gr key l rs = reL gr key l rs := by unfold raR; rw [if_pos h]
  have hl : (raR gr key l rs).length = l.length := by rw [e, reL_length hp.2.2.2.1]
  refine ⟨by omega, ?_⟩
  have h1 : (raR gr key l rs)[k]'(by omega) = (reL gr key l rs)[k]'(by rw [← e]; omega) := by congr 1
  rw [h1]
  unfold reL
  rw [List.getElem_map, List.getElem_zip]
  have h2 : k < rs.length := by have := hp.2.2.2.1; omega
  rw [show nth rs k = rs[k] by simp [nth, h2]]
set_option maxRecDepth 100000 in
set_option maxHeartbeats 8000000 in
theorem law_Reencryption (va vb : Value) (w : World) (h1 : Bytes w va) (h2 : Bytes w vb) :
    Calls Try.prog 4 #[va, vb] w fun e w' => e = .returned (.bool true) ∧ Below w.heap.size w w' := by
  obtain ⟨a, m, c, rfl, k1, k2, hv⟩ := h1
  obtain ⟨a', m', c', rfl, k3, k4, hv'⟩ := h2
  have H1 : Hid (Bytes w (.slice a m c)) := ⟨a, m, c, rfl, k1, k2, hv⟩
  have H2 : Hid (Bytes w (.slice a' m' c')) := ⟨a', m', c', rfl, k3, k4, hv'⟩
  clear hv hv'
  unfold maxLen at k2 k4
  by_cases hbig : (1048576 : Int) < wrap64 ((m : Int) + (m' : Int))
  · go_enter Try.func4, Try.ntmps4
    go_wp2_with fail
    go_ret
    exact ⟨rfl, Below.refl _ _⟩
  have HB : Hid (Below w.heap.size w w) := Below.refl _ _
  go_enter Try.func4, Try.ntmps4
  go_wp2_with fail
  try (go_wp2_with fail)
  refine (spec_DrawReencryptAll _ _ (H1.out.below HB.out)).mono ?_
  rintro e u1 ⟨⟨P1a, Q1a, G1a, x1b, v1c, l1c, v1d, l1d, rfl, hgr1a, ⟨x1bl, x1bu⟩, ⟨hs1c, hl1c⟩, ⟨hs1d, hl1d⟩⟩, hb⟩
  clear hgr1a
  have HL1c := Lib.hid hs1c
  obtain ⟨a1c, n1c, c1c, rfl⟩ := hs1c.shape
  have HE1c := Lib.hid hs1c.len
  clear hs1c
  have HL1d := Lib.hid hs1d
  obtain ⟨a1d, n1d, c1d, rfl⟩ := hs1d.shape
  have HE1d := Lib.hid hs1d.len
  clear hs1d
  replace HB := Lib.hid (Below.next HB.out hb)
  clear hb
  obtain ⟨V2, hV⟩ : ∃ V, V = u1.alloc (.cells #[.int .i64 P1a, .int .i64 Q1a, .int .i64 G1a] 39) := ⟨_, rfl⟩
  have hbV : Below u1.heap.size u1 V2 := by rw [hV]; (repeat (first | exact Below.refl _ _ | assumption | refine Below.drew ?_ | refine Below.alloc ?_ (by first | (simp; done) | (simp; omega)) _ | refine Below.setCell ?_ (by first | (simp; done) | (simp; omega)) _))
  have HZ1 : Hid (BoxN V2 u1.heap.size 39 [.int .i64 P1a, .int .i64 Q1a, .int .i64 G1a]) := by unfold Hid; rw [hV]; have h := (BoxN.new u1 [.int .i64 P1a, .int .i64 Q1a, .int .i64 G1a] 39); simpa using h
  try (go_wp2_with fail)
  rw [← hV]
  clear hV
  replace HB := Lib.hid (Below.next HB.out hbV)
  replace HL1c := Lib.hid (HL1c.out.below hbV)
  replace HL1d := Lib.hid (HL1d.out.below hbV)
  clear hbV
  have z_0_0 := HZ1.out.cell (i := 0) rfl
  have z_0_1 := HZ1.out.cell (i := 1) rfl
  have z_0_2 := HZ1.out.cell (i := 2) rfl
  try (go_wp2_with fail)
  clear z_0_0 z_0_1 z_0_2
  refine (impl_ReencryptAll ⟨P1a, Q1a, G1a⟩ x1b _ l1c _ l1d _ ⟨by omega, by omega⟩ HL1c.out HL1d.out).mono ?_
  rintro e u3 ⟨v3, rfl, hs3, hb⟩
  obtain ⟨o3, ho3⟩ : ∃ r, raR ⟨P1a, Q1a, G1a⟩ x1b l1c l1d = r := ⟨_, rfl⟩
  have Ho3 := Lib.hid ho3
  rw [ho3] at hs3
  clear ho3
  have HL3 := Lib.hid hs3
  obtain ⟨a3, n3, c3, rfl⟩ := hs3.shape
  have HE3 := Lib.hid hs3.len
  clear hs3
  obtain ⟨q3, hq3⟩ : ∃ r, raB ⟨P1a, Q1a, G1a⟩ x1b l1c l1d = r := ⟨_, rfl⟩
  have Hq3 := Lib.hid hq3
  rw [hq3]
  clear hq3
  replace HB := Lib.hid (Below.next HB.out hb)
  replace HZ1 := Lib.hid (HZ1.out.below hb)
  replace HL1c := Lib.hid (HL1c.out.below hb)
  replace HL1d := Lib.hid (HL1d.out.below hb)
  clear hb
  have z_0_0 := HZ1.out.cell (i := 0) rfl
  have z_0_1 := HZ1.out.cell (i := 1) rfl
  have z_0_2 := HZ1.out.cell (i := 2) rfl
  try (go_wp2_with fail)
  clear z_0_0 z_0_1 z_0_2
  refine (spec_ReencryptAll ⟨P1a, Q1a, G1a⟩ x1b _ l1c _ l1d _ ⟨by omega, by omega⟩ HL1c.out HL1d.out).mono ?_
  rintro e u4 ⟨v4, rfl, hs4, hb⟩
  rw [Ho3.out] at hs4
  have HL4 := Lib.hid hs4
  obtain ⟨a4, n4, c4, rfl⟩ := hs4.shape
  have HE4 := Lib.hid hs4.len
  clear hs4
  rw [Hq3.out]
  replace HB := Lib.hid (Below.next HB.out hb)
  replace HZ1 := Lib.hid (HZ1.out.below hb)
  replace HL1c := Lib.hid (HL1c.out.below hb)
  replace HL1d := Lib.hid (HL1d.out.below hb)
  replace HL3 := Lib.hid (HL3.out.below hb)
  clear hb
  have z_0_0 := HZ1.out.cell (i := 0) rfl
  have z_0_1 := HZ1.out.cell (i := 1) rfl
  have z_0_2 := HZ1.out.cell (i := 2) rfl
  try (go_wp2_with fail)
  clear z_0_0 z_0_1 z_0_2
  refine (spec_DrawPowCipher _ _ (H2.out.below HB.out)).mono ?_
  rintro e u5 ⟨⟨P5a, Q5a, G5a, x5b, y5b, x5c, rfl, hgr5a, ⟨⟨x5bl, x5bu⟩, ⟨y5bl, y5bu⟩⟩, ⟨x5cl, x5cu⟩⟩, hb⟩
  clear hgr5a
  replace HB := Lib.hid (Below.next HB.out hb)
  replace HZ1 := Lib.hid (HZ1.out.below hb)
  replace HL1c := Lib.hid (HL1c.out.below hb)
  replace HL1d := Lib.hid (HL1d.out.below hb)
  replace HL3 := Lib.hid (HL3.out.below hb)
  replace HL4 := Lib.hid (HL4.out.below hb)
  clear hb
  have z_0_0 := HZ1.out.cell (i := 0) rfl
  have z_0_1 := HZ1.out.cell (i := 1) rfl
  have z_0_2 := HZ1.out.cell (i := 2) rfl
  have lt_HZ1 := HZ1.out.lt
  obtain ⟨V6, hV⟩ : ∃ V, V = (u5.alloc (.cells #[.int .i64 P5a, .int .i64 Q5a, .int .i64 G5a] 39)).alloc (.cells #[.int .i64 x5b, .int .i64 y5b] 58) := ⟨_, rfl⟩
  have hbV : Below u5.heap.size u5 V6 := by rw [hV]; (repeat (first | exact Below.refl _ _ | assumption | refine Below.drew ?_ | refine Below.alloc ?_ (by first | (simp; done) | (simp; omega)) _ | refine Below.setCell ?_ (by first | (simp; done) | (simp; omega)) _))
  have HZ2 : Hid (BoxN V6 u5.heap.size 39 [.int .i64 P5a, .int .i64 Q5a, .int .i64 G5a]) := by unfold Hid; rw [hV]; have h := ((BoxN.new u5 [.int .i64 P5a, .int .i64 Q5a, .int .i64 G5a] 39).alloc (.cells #[.int .i64 x5b, .int .i64 y5b] 58)); simpa using h
  have HZ3 : Hid (BoxN V6 (u5.heap.size + 1) 58 [.int .i64 x5b, .int .i64 y5b]) := by unfold Hid; rw [hV]; have h := (BoxN.new (u5.alloc (.cells #[.int .i64 P5a, .int .i64 Q5a, .int .i64 G5a] 39)) [.int .i64 x5b, .int .i64 y5b] 58); simpa using h
  try (go_wp2_with fail)
  rw [← hV]
  clear hV
  clear lt_HZ1
  clear z_0_0 z_0_1 z_0_2
  replace HB := Lib.hid (Below.next HB.out hbV)
  replace HZ1 := Lib.hid (HZ1.out.below hbV)
  replace HL1c := Lib.hid (HL1c.out.below hbV)
  replace HL1d := Lib.hid (HL1d.out.below hbV)
  replace HL3 := Lib.hid (HL3.out.below hbV)
  replace HL4 := Lib.hid (HL4.out.below hbV)
  clear hbV
  have z_0_0 := HZ1.out.cell (i := 0) rfl
  have z_0_1 := HZ1.out.cell (i := 1) rfl
  have z_0_2 := HZ1.out.cell (i := 2) rfl
  have z_1_0 := HZ2.out.cell (i := 0) rfl
  have z_1_1 := HZ2.out.cell (i := 1) rfl
  have z_1_2 := HZ2.out.cell (i := 2) rfl
  have z_2_0 := HZ3.out.cell (i := 0) rfl
  have z_2_1 := HZ3.out.cell (i := 1) rfl
  try (go_wp2_with fail)
  clear z_0_0 z_0_1 z_0_2 z_1_0 z_1_1 z_1_2 z_2_0 z_2_1
  refine (impl_PowCipher ⟨P5a, Q5a, G5a⟩ ⟨x5b, y5b⟩ x5c _ (ciOf (by omega) (by omega) (by omega) (by omega)) ⟨by omega, by omega⟩).mono ?_
  rintro e u7 ⟨rfl, hb⟩
  obtain ⟨d7a, hd7a⟩ : ∃ r, pcR ⟨P5a, Q5a, G5a⟩ ⟨x5b, y5b⟩ x5c = r := ⟨_, rfl⟩
  have Hd7a := Lib.hid hd7a
  rw [hd7a]
  clear hd7a
  obtain ⟨q7b, hq7b⟩ : ∃ r, pcB ⟨P5a, Q5a, G5a⟩ ⟨x5b, y5b⟩ x5c = r := ⟨_, rfl⟩
  have Hq7b := Lib.hid hq7b
  rw [hq7b]
  clear hq7b
  replace HB := Lib.hid (Below.next HB.out hb)
  replace HZ1 := Lib.hid (HZ1.out.below hb)
  replace HZ2 := Lib.hid (HZ2.out.below hb)
  replace HZ3 := Lib.hid (HZ3.out.below hb)
  replace HL1c := Lib.hid (HL1c.out.below hb)
  replace HL1d := Lib.hid (HL1d.out.below hb)
  replace HL3 := Lib.hid (HL3.out.below hb)
  replace HL4 := Lib.hid (HL4.out.below hb)
  clear hb
  have z_0_0 := HZ1.out.cell (i := 0) rfl
  have z_0_1 := HZ1.out.cell (i := 1) rfl
  have z_0_2 := HZ1.out.cell (i := 2) rfl
  have z_1_0 := HZ2.out.cell (i := 0) rfl
  have z_1_1 := HZ2.out.cell (i := 1) rfl
  have z_1_2 := HZ2.out.cell (i := 2) rfl
  have z_2_0 := HZ3.out.cell (i := 0) rfl
  have z_2_1 := HZ3.out.cell (i := 1) rfl
  have lt_HZ1 := HZ1.out.lt
  have lt_HZ2 := HZ2.out.lt
  have lt_HZ3 := HZ3.out.lt
  obtain ⟨V8, hV⟩ : ∃ V, V = u7.alloc (.cells #[.int .i64 d7a.a, .int .i64 d7a.b] 58) := ⟨_, rfl⟩
  have hbV : Below u7.heap.size u7 V8 := by rw [hV]; (repeat (first | exact Below.refl _ _ | assumption | refine Below.drew ?_ | refine Below.alloc ?_ (by first | (simp; done) | (simp; omega)) _ | refine Below.setCell ?_ (by first | (simp; done) | (simp; omega)) _))
  have HZ4 : Hid (BoxN V8 u7.heap.size 58 [.int .i64 d7a.a, .int .i64 d7a.b]) := by unfold Hid; rw [hV]; have h := (BoxN.new u7 [.int .i64 d7a.a, .int .i64 d7a.b] 58); simpa using h
  try (go_wp2_with fail)
  rw [← hV]
  clear hV
  clear lt_HZ1
  clear lt_HZ2
  clear lt_HZ3
  clear z_0_0 z_0_1 z_0_2 z_1_0 z_1_1 z_1_2 z_2_0 z_2_1
  replace HB := Lib.hid (Below.next HB.out hbV)
  replace HZ1 := Lib.hid (HZ1.out.below hbV)
  replace HZ2 := Lib.hid (HZ2.out.below hbV)
  replace HZ3 := Lib.hid (HZ3.out.below hbV)
  replace HL1c := Lib.hid (HL1c.out.below hbV)
  replace HL1d := Lib.hid (HL1d.out.below hbV)
  replace HL3 := Lib.hid (HL3.out.below hbV)
  replace HL4 := Lib.hid (HL4.out.below hbV)
  clear hbV
  have z_0_0 := HZ1.out.cell (i := 0) rfl
  have z_0_1 := HZ1.out.cell (i := 1) rfl
  have z_0_2 := HZ1.out.cell (i := 2) rfl
  have z_1_0 := HZ2.out.cell (i := 0) rfl
  have z_1_1 := HZ2.out.cell (i := 1) rfl
  have z_1_2 := HZ2.out.cell (i := 2) rfl
  have z_2_0 := HZ3.out.cell (i := 0) rfl
  have z_2_1 := HZ3.out.cell (i := 1) rfl
  have z_3_0 := HZ4.out.cell (i := 0) rfl
  have z_3_1 := HZ4.out.cell (i := 1) rfl
  try (go_wp2_with fail)
  clear z_0_0 z_0_1 z_0_2 z_1_0 z_1_1 z_1_2 z_2_0 z_2_1 z_3_0 z_3_1
  refine (spec_PowCipher ⟨P5a, Q5a, G5a⟩ ⟨x5b, y5b⟩ x5c _ (ciOf (by omega) (by omega) (by omega) (by omega)) ⟨by omega, by omega⟩).mono ?_
  rintro e u9 ⟨rfl, hb⟩
  rw [Hd7a.out]
  rw [Hq7b.out]
  replace HB := Lib.hid (Below.next HB.out hb)
  replace HZ1 := Lib.hid (HZ1.out.below hb)
  replace HZ2 := Lib.hid (HZ2.out.below hb)
  replace HZ3 := Lib.hid (HZ3.out.below hb)
  replace HZ4 := Lib.hid (HZ4.out.below hb)
  replace HL1c := Lib.hid (HL1c.out.below hb)
  replace HL1d := Lib.hid (HL1d.out.below hb)
  replace HL3 := Lib.hid (HL3.out.below hb)
  replace HL4 := Lib.hid (HL4.out.below hb)
  clear hb
  have eq_q3 : (q3 == q3) = true := by simp
  have z_0_0 := HZ1.out.cell (i := 0) rfl
  have z_0_1 := HZ1.out.cell (i := 1) rfl
  have z_0_2 := HZ1.out.cell (i := 2) rfl
  have z_1_0 := HZ2.out.cell (i := 0) rfl
  have z_1_1 := HZ2.out.cell (i := 1) rfl
  have z_1_2 := HZ2.out.cell (i := 2) rfl
  have z_2_0 := HZ3.out.cell (i := 0) rfl
  have z_2_1 := HZ3.out.cell (i := 1) rfl
  have z_3_0 := HZ4.out.cell (i := 0) rfl
  have z_3_1 := HZ4.out.cell (i := 1) rfl
  have lt_HZ1 := HZ1.out.lt
  have lt_HZ2 := HZ2.out.lt
  have lt_HZ3 := HZ3.out.lt
  have lt_HZ4 := HZ4.out.lt
  obtain ⟨V10, hV⟩ : ∃ V, V = u9.alloc (.cells #[.int .i64 d7a.a, .int .i64 d7a.b] 58) := ⟨_, rfl⟩
  have hbV : Below u9.heap.size u9 V10 := by rw [hV]; (repeat (first | exact Below.refl _ _ | assumption | refine Below.drew ?_ | refine Below.alloc ?_ (by first | (simp; done) | (simp; omega)) _ | refine Below.setCell ?_ (by first | (simp; done) | (simp; omega)) _))
  have HZ5 : Hid (BoxN V10 u9.heap.size 58 [.int .i64 d7a.a, .int .i64 d7a.b]) := by unfold Hid; rw [hV]; have h := (BoxN.new u9 [.int .i64 d7a.a, .int .i64 d7a.b] 58); simpa using h
  try (go_wp2_with fail)
  rw [← hV]
  clear hV
  clear lt_HZ1
  clear lt_HZ2
  clear lt_HZ3
  clear lt_HZ4
  clear z_0_0 z_0_1 z_0_2 z_1_0 z_1_1 z_1_2 z_2_0 z_2_1 z_3_0 z_3_1
  replace HB := Lib.hid (Below.next HB.out hbV)
  replace HZ1 := Lib.hid (HZ1.out.below hbV)
  replace HZ2 := Lib.hid (HZ2.out.below hbV)
  replace HZ3 := Lib.hid (HZ3.out.below hbV)
  replace HZ4 := Lib.hid (HZ4.out.below hbV)
  replace HL1c := Lib.hid (HL1c.out.below hbV)
  replace HL1d := Lib.hid (HL1d.out.below hbV)
  replace HL3 := Lib.hid (HL3.out.below hbV)
  replace HL4 := Lib.hid (HL4.out.below hbV)
  clear hbV
  have z_0_0 := HZ1.out.cell (i := 0) rfl
  have z_0_1 := HZ1.out.cell (i := 1) rfl
  have z_0_2 := HZ1.out.cell (i := 2) rfl
  have z_1_0 := HZ2.out.cell (i := 0) rfl
  have z_1_1 := HZ2.out.cell (i := 1) rfl
  have z_1_2 := HZ2.out.cell (i := 2) rfl
  have z_2_0 := HZ3.out.cell (i := 0) rfl
  have z_2_1 := HZ3.out.cell (i := 1) rfl
  have z_3_0 := HZ4.out.cell (i := 0) rfl
  have z_3_1 := HZ4.out.cell (i := 1) rfl
  have z_4_0 := HZ5.out.cell (i := 0) rfl
  have z_4_1 := HZ5.out.cell (i := 1) rfl
  try (go_wp2_with fail)
  clear z_0_0 z_0_1 z_0_2 z_1_0 z_1_1 z_1_2 z_2_0 z_2_1 z_3_0 z_3_1 z_4_0 z_4_1
  refine (laws_qCiphersEq _ _ _ _ HL3.out HL4.out).mono ?_
  rintro e u11 ⟨rfl, hb⟩
  replace HB := Lib.hid (Below.next HB.out hb)
  replace HZ1 := Lib.hid (HZ1.out.below hb)
  replace HZ2 := Lib.hid (HZ2.out.below hb)
  replace HZ3 := Lib.hid (HZ3.out.below hb)
  replace HZ4 := Lib.hid (HZ4.out.below hb)
  replace HZ5 := Lib.hid (HZ5.out.below hb)
  replace HL1c := Lib.hid (HL1c.out.below hb)
  replace HL1d := Lib.hid (HL1d.out.below hb)
  replace HL3 := Lib.hid (HL3.out.below hb)
  replace HL4 := Lib.hid (HL4.out.below hb)
  clear hb
  cases q3 with
  | false =>
    have eq_q7b : (q7b == q7b) = true := by simp
    have eq_d7a_a : (d7a.a == d7a.a) = true := by simp
    have eq_d7a_b : (d7a.b == d7a.b) = true := by simp
    have z_0_0 := HZ1.out.cell (i := 0) rfl
    have z_0_1 := HZ1.out.cell (i := 1) rfl
    have z_0_2 := HZ1.out.cell (i := 2) rfl
    have z_1_0 := HZ2.out.cell (i := 0) rfl
    have z_1_1 := HZ2.out.cell (i := 1) rfl
    have z_1_2 := HZ2.out.cell (i := 2) rfl
    have z_2_0 := HZ3.out.cell (i := 0) rfl
    have z_2_1 := HZ3.out.cell (i := 1) rfl
    have z_3_0 := HZ4.out.cell (i := 0) rfl
    have z_3_1 := HZ4.out.cell (i := 1) rfl
    have z_4_0 := HZ5.out.cell (i := 0) rfl
    have z_4_1 := HZ5.out.cell (i := 1) rfl
    try (go_wp2_with fail)
    clear z_0_0 z_0_1 z_0_2 z_1_0 z_1_1 z_1_2 z_2_0 z_2_1 z_3_0 z_3_1 z_4_0 z_4_1
    go_ret
    exact ⟨rfl, HB.out⟩
  | true =>
    have eq_q7b : (q7b == q7b) = true := by simp
    have eq_d7a_a : (d7a.a == d7a.a) = true := by simp
    have eq_d7a_b : (d7a.b == d7a.b) = true := by simp
    have z_0_0 := HZ1.out.cell (i := 0) rfl
    have z_0_1 := HZ1.out.cell (i := 1) rfl
    have z_0_2 := HZ1.out.cell (i := 2) rfl
    have z_1_0 := HZ2.out.cell (i := 0) rfl
    have z_1_1 := HZ2.out.cell (i := 1) rfl
    have z_1_2 := HZ2.out.cell (i := 2) rfl
    have z_2_0 := HZ3.out.cell (i := 0) rfl
    have z_2_1 := HZ3.out.cell (i := 1) rfl
    have z_3_0 := HZ4.out.cell (i := 0) rfl
    have z_3_1 := HZ4.out.cell (i := 1) rfl
    have z_4_0 := HZ5.out.cell (i := 0) rfl
    have z_4_1 := HZ5.out.cell (i := 1) rfl
    try (go_wp2_with fail)
    clear z_0_0 z_0_1 z_0_2 z_1_0 z_1_1 z_1_2 z_2_0 z_2_1 z_3_0 z_3_1 z_4_0 z_4_1
    have HRA := Lib.hid (raB_parts Hq3.out)
    have HGD := Lib.hid HRA.out.1
    have HG := Lib.hid (goodG_ok HGD.out)
    have hq1 : 2 ≤ Q1a := HG.out.q1
    have hq2 : Q1a ≤ P1a - 1 := HG.out.q2
    have hp2 : P1a ≤ 2000000000 := HG.out.p2
    have HN1 : Hid (l1c.length = n1c) := HE1c.out
    have HN2 : Hid (l1d.length = n1d) := HE1d.out
    have KL := Lib.hid HL1c.out.capMax
    go_loopg [97] n1c (fun gh iv wr => ∃ k : Nat, k + gh = n1c ∧ iv = .int .i64 k ∧ Below u11.heap.size u11 wr)
    case atStart => exact ⟨0, by omega, rfl, Below.refl _ _⟩
    case round =>
      obtain ⟨k, hkg, rfl, hbr⟩ := hrel
      by_cases hlt : k < n1c
      · have HK : Hid (k < l1c.length) := by unfold Hid; rw [HN1.out]; exact hlt
        have HK2 : Hid (k < l1d.length) := by unfold Hid; rw [HRA.out.2.2.2.1]; exact HK.out
        obtain ⟨hk3, hoe⟩ := raR_get Hq3.out HK.out
        have HK3 : Hid (k < o3.length) := by unfold Hid; rw [← Ho3.out]; exact hk3
        have HOE : Hid (o3[k]'HK3.out = reC ⟨P1a, Q1a, G1a⟩ x1b (l1c[k]'HK.out) (nth l1d k)) := by unfold Hid; simp only [Ho3.out] at hoe; exact hoe
        clear hoe hk3
        have HCX : Hid (ciB ⟨P1a, Q1a, G1a⟩ (l1c[k]'HK.out) = true) := HRA.out.2.2.1 _ (List.getElem_mem _)
        have HEY : Hid (expB ⟨P1a, Q1a, G1a⟩ (nth l1d k) = true) := by unfold Hid; rw [show nth l1d k = l1d[k]'HK2.out by have := HK2.out; simp [nth, this]]; exact HRA.out.2.2.2.2 _ (List.getElem_mem _)
        obtain ⟨br, oor, rfl, hcr⟩ := (HL1d.out).at_ (by have := HN2.out; have := HK2.out; omega)
        have y_r := box_at (hcr k (by have := HN2.out; have := HK2.out; omega)) hbr
        clear hcr
        generalize nth l1d k = y at y_r HOE HEY
        obtain ⟨b_x, o_x, rfl, hcx⟩ := HL1c.out.at_ (by omega)
        obtain ⟨us, hcell, hrd⟩ := hcx k HK.out
        clear hcx
        generalize l1c[k]'HK.out = x at hrd HOE HCX
        obtain ⟨ers, jx_0, jx_1⟩ := rdCipher.1 ⟨us, rfl, hrd⟩
        obtain rfl : us = [.int .i64 x.a, .int .i64 x.b] := by have h := Value.agg.inj ers; simpa using congrArg Array.toList h
        clear ers hrd
        have y_x_0 : wr.cell? ⟨b_x, o_x + k * 2, none⟩ = some (.int .i64 x.a) := box_at (hcell 0 (by decide)) hbr
        have y_x_1 : wr.cell? ⟨b_x, o_x + k * 2 + 1, none⟩ = some (.int .i64 x.b) := box_at (hcell 1 (by decide)) hbr
        clear hcell
        have HR_x := Lib.hid ((kS rCipher).rd_below (rdCipher.2 ⟨rfl, jx_0, jx_1⟩ : (kS rCipher).rd u11 (.agg #[.int .i64 x.a, .int .i64 x.b]) x) hbr)
        have J_x_0 := Lib.hid jx_0
        have J_x_1 := Lib.hid jx_1
        clear jx_0 jx_1
        have HKo := Lib.hid HK3.out
        have hko : k < n3 := by have := HE3.out; have := HKo.out; omega
        have HKs := HK
        clear HK
        have HK := HK3
        obtain ⟨b_z, o_z, rfl, hcx⟩ := HL3.out.at_ (by omega)
        obtain ⟨us, hcell, hrd⟩ := hcx k HK.out
        clear hcx
        generalize o3[k]'HK.out = z at hrd HOE
        obtain ⟨ers, jz_0, jz_1⟩ := rdCipher.1 ⟨us, rfl, hrd⟩
        obtain rfl : us = [.int .i64 z.a, .int .i64 z.b] := by have h := Value.agg.inj ers; simpa using congrArg Array.toList h
        clear ers hrd
        have y_z_0 : wr.cell? ⟨b_z, o_z + k * 2, none⟩ = some (.int .i64 z.a) := box_at (hcell 0 (by decide)) hbr
        have y_z_1 : wr.cell? ⟨b_z, o_z + k * 2 + 1, none⟩ = some (.int .i64 z.b) := box_at (hcell 1 (by decide)) hbr
        clear hcell
        have HR_z := Lib.hid ((kS rCipher).rd_below (rdCipher.2 ⟨rfl, jz_0, jz_1⟩ : (kS rCipher).rd u11 (.agg #[.int .i64 z.a, .int .i64 z.b]) z) hbr)
        have J_z_0 := Lib.hid jz_0
        have J_z_1 := Lib.hid jz_1
        clear jz_0 jz_1
        clear HK
        have HXB : Hid (rcB ⟨P1a, Q1a, G1a⟩ x1b x y = true) := by unfold Hid rcB; rw [HGD.out, HRA.out.2.1, HCX.out, HEY.out]; rfl
        have HXR : Hid (rcR ⟨P1a, Q1a, G1a⟩ x1b x y = z) := by unfold Hid rcR; rw [if_pos HXB.out, HOE.out]
        have HCZ : Hid (ciB ⟨P1a, Q1a, G1a⟩ z = true) := by unfold Hid; rw [HOE.out]; exact ciB_reC HGD.out HRA.out.2.1 HCX.out
        have HZB : Hid (rcB ⟨P1a, Q1a, G1a⟩ x1b z ((-y) % Q1a) = true) := by unfold Hid rcB; rw [HGD.out, HRA.out.2.1, HCZ.out]; exact expB_opp HG.out y
        have HZR : Hid (rcR ⟨P1a, Q1a, G1a⟩ x1b z ((-y) % Q1a) = x) := by unfold Hid rcR; rw [if_pos HZB.out, HOE.out]; exact reC_opp HGD.out HRA.out.2.1 HCX.out HEY.out
        have hye := expB_bd HEY.out
        obtain ⟨hy0, hy1⟩ := hye
        replace hy1 : y ≤ Q1a - 1 := hy1
        have HYI : Hid (I64 y) := ⟨by omega, by omega⟩
        have HNI : Hid (I64 (-y)) := ⟨by omega, by omega⟩
        have hm0 : 0 ≤ (-y) % Q1a := Int.emod_nonneg _ (by omega)
        have hm1 : (-y) % Q1a < Q1a := Int.emod_lt_of_pos _ (by omega)
        have HYO : Hid (I64 ((-y) % Q1a)) := ⟨by omega, by omega⟩
        have hwn : IntKind.i64.wrap (-y) = -y := IntWalk.i64_in _ (by omega)
        have hwk : IntKind.i64.wrap ((k : Int) + 1) = (k : Int) + 1 := IntWalk.i64_in _ (by have := KL.out.1; have := KL.out.2; unfold maxLen at this; omega)
        have k0 : (0 : Int) ≤ (k : Int) := by omega
        have k1 : (k : Int) < (n1c : Int) := by omega
        have k1r : (k : Int) < (n1d : Int) := by have := HN2.out; have := HK2.out; omega
        have k1o : (k : Int) < (n3 : Int) := by have := HE3.out; have := HKo.out; omega
        clear hm0 hm1
        have exa : (x.a == x.a) = true := by simp
        have exb : (x.b == x.b) = true := by simp
        have eza : (z.a == z.a) = true := by simp
        have ezb : (z.b == z.b) = true := by simp
        have c0 := box_at (HZ1.out.cell (i := 0) rfl) hbr
        have c1 := box_at (HZ1.out.cell (i := 1) rfl) hbr
        have c2 := box_at (HZ1.out.cell (i := 2) rfl) hbr
        have HBR := Lib.hid hbr
        clear hbr
        have HYR := Lib.hid y_r
        have HYX0 := Lib.hid y_x_0
        have HYX1 := Lib.hid y_x_1
        have HYZ0 := Lib.hid y_z_0
        have HYZ1 := Lib.hid y_z_1
        have hc : Below wr.heap.size wr wr := Below.refl _ _
        go_wp2_with fail
        try (go_wp2_with fail)
        refine wp_region_noPanic ?_
        have hCC : ∀ w', Below wr.heap.size wr w' → (w'.cell? ⟨u1.heap.size, 0, none⟩ = some (.int .i64 P1a) ∧ w'.cell? ⟨u1.heap.size, 1, none⟩ = some (.int .i64 Q1a) ∧ w'.cell? ⟨u1.heap.size, 2, none⟩ = some (.int .i64 G1a) ∧ w'.cell? ⟨b_x, o_x + k * 2, none⟩ = some (.int .i64 x.a) ∧ w'.cell? ⟨b_x, o_x + k * 2 + 1, none⟩ = some (.int .i64 x.b) ∧ w'.cell? ⟨br, oor + k, none⟩ = some (.int .i64 y)) := fun w' h => ⟨box_at c0 h, box_at c1 h, box_at c2 h, box_at y_x_0 h, box_at y_x_1 h, box_at y_r h⟩
        refine wp_region_L (fun w' => w'.cell? ⟨u1.heap.size, 0, none⟩ = some (.int .i64 P1a) ∧ w'.cell? ⟨u1.heap.size, 1, none⟩ = some (.int .i64 Q1a) ∧ w'.cell? ⟨u1.heap.size, 2, none⟩ = some (.int .i64 G1a) ∧ w'.cell? ⟨b_x, o_x + k * 2, none⟩ = some (.int .i64 x.a) ∧ w'.cell? ⟨b_x, o_x + k * 2 + 1, none⟩ = some (.int .i64 x.b) ∧ w'.cell? ⟨br, oor + k, none⟩ = some (.int .i64 y)) 19 [] [13] [(0, []), (1, []), (2, []), (3, []), (4, [1, 0]), (5, [0]), (6, []), (7, []), (8, [1, 0]), (9, [0]), (10, [9, 8, 4, 0]), (11, [0]), (12, [0]), (13, [1]), (14, [])] [15, 16] (by kernel_rfl) (by kernel_rfl) (by kernel_rfl) (by kernel_rfl) (by kernel_rfl) rfl (fun _ _ _ _ h => h) hCC ?_
        simp only [pickR, pickN, List.getElem?_cons_zero, List.getElem?_cons_succ]
        refine wpPre_nil (fun _ => ?_)
        -- 0: load 39 t5
        refine' chainL_read (d := (some 101)) _ rfl rfl (fun w' hS' => ?_) ?_; rotate_left
        · simp only [lookP, allP, Act.put, List.getElem?_cons_zero, List.getElem?_cons_succ, List.setIfInBounds_toArray, List.set_cons_zero, List.set_cons_succ]
          (try dsimp only at hS')
          go_simp
          (try with_reducible rfl)
        -- 1: move t6
        refine' chainL_read (d := (some 102)) _ rfl rfl (fun w' hS' => ?_) ?_; rotate_left
        · simp only [lookP, allP, Act.put, List.getElem?_cons_zero, List.getElem?_cons_succ, List.setIfInBounds_toArray, List.set_cons_zero, List.set_cons_succ]
          (try dsimp only at hS')
          go_simp
          (try with_reducible rfl)
        -- 2: move t7
        refine' chainL_read (d := (some 103)) _ rfl rfl (fun w' hS' => ?_) ?_; rotate_left
        · simp only [lookP, allP, Act.put, List.getElem?_cons_zero, List.getElem?_cons_succ, List.setIfInBounds_toArray, List.set_cons_zero, List.set_cons_succ]
          (try dsimp only at hS')
          go_simp
          (try with_reducible rfl)
        -- 3: move t20
        refine' chainL_read (d := (some 104)) _ rfl rfl (fun w' hS' => ?_) ?_; rotate_left
        · simp only [lookP, allP, Act.put, List.getElem?_cons_zero, List.getElem?_cons_succ, List.setIfInBounds_toArray, List.set_cons_zero, List.set_cons_succ]
          (try dsimp only at hS')
          go_simp
          (try with_reducible rfl)
        -- 4: indexAddr 52 t103 t104
        refine' chainL_read (d := (some 105)) _ rfl rfl (fun w' hS' => ?_) ?_; rotate_left
        · simp only [lookP, allP, Act.put, List.getElem?_cons_zero, List.getElem?_cons_succ, List.setIfInBounds_toArray, List.set_cons_zero, List.set_cons_succ]
          (try dsimp only at hS')
          go_simp
          (try with_reducible rfl)
        -- 5: load 58 t105
        refine' chainL_read (d := (some 106)) _ rfl rfl (fun w' hS' => ?_) ?_; rotate_left
        · simp only [lookP, allP, Act.put, List.getElem?_cons_zero, List.getElem?_cons_succ, List.setIfInBounds_toArray, List.set_cons_zero, List.set_cons_succ]
          (try dsimp only at hS')
          go_simp
          (try with_reducible rfl)
        -- 6: move t8
        refine' chainL_read (d := (some 107)) _ rfl rfl (fun w' hS' => ?_) ?_; rotate_left
        · simp only [lookP, allP, Act.put, List.getElem?_cons_zero, List.getElem?_cons_succ, List.setIfInBounds_toArray, List.set_cons_zero, List.set_cons_succ]
          (try dsimp only at hS')
          go_simp
          (try with_reducible rfl)
        -- 7: move t20
        refine' chainL_read (d := (some 108)) _ rfl rfl (fun w' hS' => ?_) ?_; rotate_left
        · simp only [lookP, allP, Act.put, List.getElem?_cons_zero, List.getElem?_cons_succ, List.setIfInBounds_toArray, List.set_cons_zero, List.set_cons_succ]
          (try dsimp only at hS')
          go_simp
          (try with_reducible rfl)
        -- 8: indexAddr 24 t107 t108
        refine' chainL_read (d := (some 109)) _ rfl rfl (fun w' hS' => ?_) ?_; rotate_left
        · simp only [lookP, allP, Act.put, List.getElem?_cons_zero, List.getElem?_cons_succ, List.setIfInBounds_toArray, List.set_cons_zero, List.set_cons_succ]
          (try dsimp only at hS')
          go_simp
          (try with_reducible rfl)
        -- 9: load 3 t109
        refine' chainL_read (d := (some 110)) _ rfl rfl (fun w' hS' => ?_) ?_; rotate_left
        · simp only [lookP, allP, Act.put, List.getElem?_cons_zero, List.getElem?_cons_succ, List.setIfInBounds_toArray, List.set_cons_zero, List.set_cons_succ]
          (try dsimp only at hS')
          go_simp
          (try with_reducible rfl)
        -- 10: call { callee := value (func 34), args := #[t101, t102, t106, t110], argTypes := #[39, 3, 58, 3] }
        refine chainL_call hCC (d := (some 111)) (.tuple #[.agg #[.int .i64 z.a, .int .i64 z.b], .bool true]) rfl rfl (fun w' hS' => ?_) ?_
        · simp only [lookP, allP, Act.put, List.getElem?_cons_zero, List.getElem?_cons_succ, List.setIfInBounds_toArray, List.set_cons_zero, List.set_cons_succ]
          intro K hK
          go_simp
          go_at_call 34
          refine (impl_Reencrypt ⟨P1a, Q1a, G1a⟩ x1b x y _ HYI.out).mono ?_
          rintro e u ⟨rfl, hq⟩
          rw [HXB.out, HXR.out]
          exact hK.out _ hq
        -- 11: move t111
        refine' chainL_read (d := (some 100)) _ rfl rfl (fun w' hS' => ?_) ?_; rotate_left
        · simp only [lookP, allP, Act.put, List.getElem?_cons_zero, List.getElem?_cons_succ, List.setIfInBounds_toArray, List.set_cons_zero, List.set_cons_succ]
          (try dsimp only at hS')
          go_simp
          (try with_reducible rfl)
        -- 12: extract t100 0
        refine' chainL_read (d := (some 112)) _ rfl rfl (fun w' hS' => ?_) ?_; rotate_left
        · simp only [lookP, allP, Act.put, List.getElem?_cons_zero, List.getElem?_cons_succ, List.setIfInBounds_toArray, List.set_cons_zero, List.set_cons_succ]
          (try dsimp only at hS')
          go_simp
          (try with_reducible rfl)
        -- 13: extract t100 1
        refine' chainL_late (d := (some 113)) _ rfl rfl (fun w' hS' => ?_) ?_; rotate_left
        · simp only [lookP, allP, Act.put, List.getElem?_cons_zero, List.getElem?_cons_succ, List.setIfInBounds_toArray, List.set_cons_zero, List.set_cons_succ]
          intro w''
          go_simp
          (try with_reducible rfl)
        -- 14: alloc 58
        refine chainL_do hCC (d := (some 21)) (fun v u => ∃ b, v = .pointer (some ⟨b, 0, none⟩) ∧ wr.heap.size ≤ b ∧ BoxN u b 58 [.int .i64 0, .int .i64 0]) (fun v w1 w2 hw h => by obtain ⟨b, h1, h2, h3⟩ := h; exact ⟨b, h1, h2, h3.below hw⟩) rfl rfl (fun w' hS' => ?_) ?_
        · simp only [lookP, allP, Act.put, List.getElem?_cons_zero, List.getElem?_cons_succ, List.setIfInBounds_toArray, List.set_cons_zero, List.set_cons_succ]
          intro K hK
          go_simp
          refine hK.out _ _ ((Below.refl _ _).alloc (Nat.le_refl _) _) ⟨_, rfl, hS'.1.size, ?_⟩
          exact BoxN.new w' [.int .i64 0, .int .i64 0] _
        refine chainL_nil (fun ua hS' => ?_)
        simp only [allP, Act.put, List.setIfInBounds_toArray, List.set_cons_zero, List.set_cons_succ]
        intro x14 hx14
        have hq1 := hS'.1
        clear hS'
        replace hc := Below.next hc hq1
        replace c0 := box_at c0 hq1
        replace c1 := box_at c1 hq1
        replace c2 := box_at c2 hq1
        replace y_x_0 := box_at y_x_0 hq1
        replace y_x_1 := box_at y_x_1 hq1
        replace y_r := box_at y_r hq1
        clear hq1
        obtain ⟨b14, rfl, hgeb14, hbxb14⟩ := hx14
        have HXb14 := Lib.hid hbxb14
        clear hbxb14
        have r0 := HXb14.out.cell (i := 0) rfl
        have r1 := HXb14.out.cell (i := 1) rfl
        have fr := fun j => HXb14.out.frozen j
        go_wp2_with fail
        refine NoPanic.normal ?_
        obtain ⟨Y1, hY⟩ : ∃ Y, Y = (ua.setCell ⟨b14, 0, none⟩ (.int .i64 z.a)).setCell ⟨b14, 1, none⟩ (.int .i64 z.b) := ⟨_, rfl⟩
        have HBb14 : Hid (BoxN Y1 b14 58 [.int .i64 z.a, .int .i64 z.b]) := by unfold Hid; rw [hY]; exact (HXb14.out.set 0 _).set 1 _
        have hc' : Below wr.heap.size wr Y1 := by rw [hY]; exact (hc.setCell (p := ⟨b14, 0, none⟩) (by show _ ≤ b14; omega) _).setCell (p := ⟨b14, 1, none⟩) (by show _ ≤ b14; omega) _
        clear r0 r1 fr hc HXb14
        have HC1 := Lib.hid hc'
        replace c0 := box_at (box_at (HZ1.out.cell (i := 0) rfl) HBR.out) hc'
        replace c1 := box_at (box_at (HZ1.out.cell (i := 1) rfl) HBR.out) hc'
        replace c2 := box_at (box_at (HZ1.out.cell (i := 2) rfl) HBR.out) hc'
        clear y_x_0 y_x_1 y_r
        have y_r := box_at HYR.out hc'
        have y_x_0 := box_at HYX0.out hc'
        have y_x_1 := box_at HYX1.out hc'
        have y_z_0 := box_at HYZ0.out hc'
        have y_z_1 := box_at HYZ1.out hc'
        have d0 := HBb14.out.cell (i := 0) rfl
        have d1 := HBb14.out.cell (i := 1) rfl
        clear hc'
        have hc : Below Y1.heap.size Y1 Y1 := Below.refl _ _
        go_wp2_with fail
        rw [← hY]
        clear hY
        try (go_wp2_with fail)
        try (go_wp2_with fail)
        refine wp_region_noPanic ?_
        have hCC : ∀ w', Below Y1.heap.size Y1 w' → (w'.cell? ⟨u1.heap.size, 0, none⟩ = some (.int .i64 P1a) ∧ w'.cell? ⟨u1.heap.size, 1, none⟩ = some (.int .i64 Q1a) ∧ w'.cell? ⟨u1.heap.size, 2, none⟩ = some (.int .i64 G1a) ∧ w'.cell? ⟨br, oor + k, none⟩ = some (.int .i64 y) ∧ w'.cell? ⟨b14, 0, none⟩ = some (.int .i64 z.a) ∧ w'.cell? ⟨b14, 1, none⟩ = some (.int .i64 z.b)) := fun w' h => ⟨box_at c0 h, box_at c1 h, box_at c2 h, box_at y_r h, box_at d0 h, box_at d1 h⟩
        refine wp_region_L (fun w' => w'.cell? ⟨u1.heap.size, 0, none⟩ = some (.int .i64 P1a) ∧ w'.cell? ⟨u1.heap.size, 1, none⟩ = some (.int .i64 Q1a) ∧ w'.cell? ⟨u1.heap.size, 2, none⟩ = some (.int .i64 G1a) ∧ w'.cell? ⟨br, oor + k, none⟩ = some (.int .i64 y) ∧ w'.cell? ⟨b14, 0, none⟩ = some (.int .i64 z.a) ∧ w'.cell? ⟨b14, 1, none⟩ = some (.int .i64 z.b)) 20 [] [14] [(0, []), (1, []), (2, []), (3, []), (4, []), (5, [1, 0]), (6, [0]), (7, [0]), (8, []), (9, [0]), (10, [2, 0]), (11, [10, 9, 8, 0]), (12, [0]), (13, [0]), (14, [1]), (15, [])] [16, 17] (by kernel_rfl) (by kernel_rfl) (by kernel_rfl) (by kernel_rfl) (by kernel_rfl) rfl (fun _ _ _ _ h => h) hCC ?_
        simp only [pickR, pickN, List.getElem?_cons_zero, List.getElem?_cons_succ]
        refine wpPre_nil (fun _ => ?_)
        -- 0: load 39 t5
        refine' chainL_read (d := (some 115)) _ rfl rfl (fun w' hS' => ?_) ?_; rotate_left
        · simp only [lookP, allP, Act.put, List.getElem?_cons_zero, List.getElem?_cons_succ, List.setIfInBounds_toArray, List.set_cons_zero, List.set_cons_succ]
          (try dsimp only at hS')
          go_simp
          (try with_reducible rfl)
        -- 1: move t6
        refine' chainL_read (d := (some 116)) _ rfl rfl (fun w' hS' => ?_) ?_; rotate_left
        · simp only [lookP, allP, Act.put, List.getElem?_cons_zero, List.getElem?_cons_succ, List.setIfInBounds_toArray, List.set_cons_zero, List.set_cons_succ]
          (try dsimp only at hS')
          go_simp
          (try with_reducible rfl)
        -- 2: load 58 t21
        refine' chainL_read (d := (some 117)) _ rfl rfl (fun w' hS' => ?_) ?_; rotate_left
        · simp only [lookP, allP, Act.put, List.getElem?_cons_zero, List.getElem?_cons_succ, List.setIfInBounds_toArray, List.set_cons_zero, List.set_cons_succ]
          (try dsimp only at hS')
          go_simp
          (try with_reducible rfl)
        -- 3: move t8
        refine' chainL_read (d := (some 118)) _ rfl rfl (fun w' hS' => ?_) ?_; rotate_left
        · simp only [lookP, allP, Act.put, List.getElem?_cons_zero, List.getElem?_cons_succ, List.setIfInBounds_toArray, List.set_cons_zero, List.set_cons_succ]
          (try dsimp only at hS')
          go_simp
          (try with_reducible rfl)
        -- 4: move t20
        refine' chainL_read (d := (some 119)) _ rfl rfl (fun w' hS' => ?_) ?_; rotate_left
        · simp only [lookP, allP, Act.put, List.getElem?_cons_zero, List.getElem?_cons_succ, List.setIfInBounds_toArray, List.set_cons_zero, List.set_cons_succ]
          (try dsimp only at hS')
          go_simp
          (try with_reducible rfl)
        -- 5: indexAddr 24 t118 t119
        refine' chainL_read (d := (some 120)) _ rfl rfl (fun w' hS' => ?_) ?_; rotate_left
        · simp only [lookP, allP, Act.put, List.getElem?_cons_zero, List.getElem?_cons_succ, List.setIfInBounds_toArray, List.set_cons_zero, List.set_cons_succ]
          (try dsimp only at hS')
          go_simp
          (try with_reducible rfl)
        -- 6: load 3 t120
        refine' chainL_read (d := (some 121)) _ rfl rfl (fun w' hS' => ?_) ?_; rotate_left
        · simp only [lookP, allP, Act.put, List.getElem?_cons_zero, List.getElem?_cons_succ, List.setIfInBounds_toArray, List.set_cons_zero, List.set_cons_succ]
          (try dsimp only at hS')
          go_simp
          (try with_reducible rfl)
        -- 7: unOp Unneg 3 t121
        refine' chainL_read (d := (some 122)) _ rfl rfl (fun w' hS' => ?_) ?_; rotate_left
        · simp only [lookP, allP, Act.put, List.getElem?_cons_zero, List.getElem?_cons_succ, List.setIfInBounds_toArray, List.set_cons_zero, List.set_cons_succ]
          (try dsimp only at hS')
          go_simp
          (try with_reducible rfl)
        -- 8: fieldAddr 39 t5 1
        refine' chainL_read (d := (some 123)) _ rfl rfl (fun w' hS' => ?_) ?_; rotate_left
        · simp only [lookP, allP, Act.put, List.getElem?_cons_zero, List.getElem?_cons_succ, List.setIfInBounds_toArray, List.set_cons_zero, List.set_cons_succ]
          (try dsimp only at hS')
          go_simp
          (try with_reducible rfl)
        -- 9: load 3 t123
        refine' chainL_read (d := (some 124)) _ rfl rfl (fun w' hS' => ?_) ?_; rotate_left
        · simp only [lookP, allP, Act.put, List.getElem?_cons_zero, List.getElem?_cons_succ, List.setIfInBounds_toArray, List.set_cons_zero, List.set_cons_succ]
          (try dsimp only at hS')
          go_simp
          (try with_reducible rfl)
        -- 10: call { callee := value (func 35), args := #[t122, t124], argTypes := #[3, 3] }
        refine chainL_call hCC (d := (some 125)) (.int .i64 ((-y) % Q1a)) rfl rfl (fun w' hS' => ?_) ?_
        · simp only [lookP, allP, Act.put, List.getElem?_cons_zero, List.getElem?_cons_succ, List.setIfInBounds_toArray, List.set_cons_zero, List.set_cons_succ]
          intro K hK
          go_simp
          go_at_call 35
          refine (laws_qMod (-y) Q1a _ HNI.out (by omega) (by omega)).mono ?_
          rintro e u ⟨rfl, rfl⟩
          exact hK.out _ (Below.refl _ _)
        -- 11: call { callee := value (func 34), args := #[t115, t116, t117, t125], argTypes := #[39, 3, 58, 3] }
        refine chainL_call hCC (d := (some 126)) (.tuple #[.agg #[.int .i64 x.a, .int .i64 x.b], .bool true]) rfl rfl (fun w' hS' => ?_) ?_
        · simp only [lookP, allP, Act.put, List.getElem?_cons_zero, List.getElem?_cons_succ, List.setIfInBounds_toArray, List.set_cons_zero, List.set_cons_succ]
          intro K hK
          go_simp
          go_at_call 34
          refine (impl_Reencrypt ⟨P1a, Q1a, G1a⟩ x1b z ((-y) % Q1a) _ HYO.out).mono ?_
          rintro e u ⟨rfl, hq⟩
          rw [HZB.out, HZR.out]
          exact hK.out _ hq
        -- 12: move t126
        refine' chainL_read (d := (some 114)) _ rfl rfl (fun w' hS' => ?_) ?_; rotate_left
        · simp only [lookP, allP, Act.put, List.getElem?_cons_zero, List.getElem?_cons_succ, List.setIfInBounds_toArray, List.set_cons_zero, List.set_cons_succ]
          (try dsimp only at hS')
          go_simp
          (try with_reducible rfl)
        -- 13: extract t114 0
        refine' chainL_read (d := (some 127)) _ rfl rfl (fun w' hS' => ?_) ?_; rotate_left
        · simp only [lookP, allP, Act.put, List.getElem?_cons_zero, List.getElem?_cons_succ, List.setIfInBounds_toArray, List.set_cons_zero, List.set_cons_succ]
          (try dsimp only at hS')
          go_simp
          (try with_reducible rfl)
        -- 14: extract t114 1
        refine' chainL_late (d := (some 128)) _ rfl rfl (fun w' hS' => ?_) ?_; rotate_left
        · simp only [lookP, allP, Act.put, List.getElem?_cons_zero, List.getElem?_cons_succ, List.setIfInBounds_toArray, List.set_cons_zero, List.set_cons_succ]
          intro w''
          go_simp
          (try with_reducible rfl)
        -- 15: alloc 58
        refine chainL_do hCC (d := (some 23)) (fun v u => ∃ b, v = .pointer (some ⟨b, 0, none⟩) ∧ Y1.heap.size ≤ b ∧ BoxN u b 58 [.int .i64 0, .int .i64 0]) (fun v w1 w2 hw h => by obtain ⟨b, h1, h2, h3⟩ := h; exact ⟨b, h1, h2, h3.below hw⟩) rfl rfl (fun w' hS' => ?_) ?_
        · simp only [lookP, allP, Act.put, List.getElem?_cons_zero, List.getElem?_cons_succ, List.setIfInBounds_toArray, List.set_cons_zero, List.set_cons_succ]
          intro K hK
          go_simp
          refine hK.out _ _ ((Below.refl _ _).alloc (Nat.le_refl _) _) ⟨_, rfl, hS'.1.size, ?_⟩
          exact BoxN.new w' [.int .i64 0, .int .i64 0] _
        refine chainL_nil (fun ub hS' => ?_)
        simp only [allP, Act.put, List.setIfInBounds_toArray, List.set_cons_zero, List.set_cons_succ]
        intro x15 hx15
        have hq2 := hS'.1
        clear hS'
        replace hc := Below.next hc hq2
        replace c0 := box_at c0 hq2
        replace c1 := box_at c1 hq2
        replace c2 := box_at c2 hq2
        replace y_r := box_at y_r hq2
        replace d0 := box_at d0 hq2
        replace d1 := box_at d1 hq2
        clear hq2
        obtain ⟨b15, rfl, hgeb15, hbxb15⟩ := hx15
        have HXb15 := Lib.hid hbxb15
        clear hbxb15
        have r0 := HXb15.out.cell (i := 0) rfl
        have r1 := HXb15.out.cell (i := 1) rfl
        have fr := fun j => HXb15.out.frozen j
        go_wp2_with fail
        refine NoPanic.normal ?_
        obtain ⟨Y2, hY⟩ : ∃ Y, Y = (ub.setCell ⟨b15, 0, none⟩ (.int .i64 x.a)).setCell ⟨b15, 1, none⟩ (.int .i64 x.b) := ⟨_, rfl⟩
        have HBb15 : Hid (BoxN Y2 b15 58 [.int .i64 x.a, .int .i64 x.b]) := by unfold Hid; rw [hY]; exact (HXb15.out.set 0 _).set 1 _
        have hc' : Below Y1.heap.size Y1 Y2 := by rw [hY]; exact (hc.setCell (p := ⟨b15, 0, none⟩) (by show _ ≤ b15; omega) _).setCell (p := ⟨b15, 1, none⟩) (by show _ ≤ b15; omega) _
        clear r0 r1 fr hc HXb15
        have HC2 := Lib.hid hc'
        clear y_x_0 y_x_1 y_r y_z_0 y_z_1 d0 d1 c0 c1 c2
        have y_x_0 := box_at (box_at HYX0.out HC1.out) hc'
        have y_x_1 := box_at (box_at HYX1.out HC1.out) hc'
        have y_z_0 := box_at (box_at HYZ0.out HC1.out) hc'
        have y_z_1 := box_at (box_at HYZ1.out HC1.out) hc'
        have d0 := box_at (HBb14.out.cell (i := 0) rfl) hc'
        have d1 := box_at (HBb14.out.cell (i := 1) rfl) hc'
        have e0 := HBb15.out.cell (i := 0) rfl
        have e1 := HBb15.out.cell (i := 1) rfl
        clear hc'
        have hc : Below Y2.heap.size Y2 Y2 := Below.refl _ _
        go_wp2_with fail
        rw [← hY]
        clear hY
        try (go_wp2_with fail)
        try (go_wp2_with fail)
        refine wp_region_noPanic ?_
        refine wp_region_P (fun w' => w'.cell? ⟨b_x, o_x + k * 2, none⟩ = some (.int .i64 x.a) ∧ w'.cell? ⟨b_x, o_x + k * 2 + 1, none⟩ = some (.int .i64 x.b) ∧ w'.cell? ⟨b_z, o_z + k * 2, none⟩ = some (.int .i64 z.a) ∧ w'.cell? ⟨b_z, o_z + k * 2 + 1, none⟩ = some (.int .i64 z.b) ∧ w'.cell? ⟨b14, 0, none⟩ = some (.int .i64 z.a) ∧ w'.cell? ⟨b14, 1, none⟩ = some (.int .i64 z.b) ∧ w'.cell? ⟨b15, 0, none⟩ = some (.int .i64 x.a) ∧ w'.cell? ⟨b15, 1, none⟩ = some (.int .i64 x.b)) 24 [(0, []), (1, [0]), (2, [0]), (3, [0]), (4, [0, 1]), (5, [2, 0]), (6, [0]), (7, [0]), (8, [1]), (9, [2]), (10, [1, 0, 3]), (11, [0, 4]), (12, [4, 0, 5]), (13, [6, 0]), (14, [0]), (15, [0]), (16, [1]), (17, [2]), (18, [1, 0, 3]), (19, [0, 4]), (20, [4, 0, 5]), (21, [6, 0])] [] (by kernel_rfl) (by kernel_rfl) (by kernel_rfl) rfl (fun _ _ _ _ h => h) (fun w' h => ⟨box_at y_x_0 h, box_at y_x_1 h, box_at y_z_0 h, box_at y_z_1 h, box_at d0 h, box_at d1 h, box_at e0 h, box_at e1 h⟩) ?_
        simp only [pickP, pickN, List.getElem?_cons_zero, List.getElem?_cons_succ]
        -- 0: move t22
        refine' chainP_read (d := (some 129)) _ rfl rfl (fun w' hS' => ?_) ?_; rotate_left
        · simp only [lookP, allP, Act.put, List.getElem?_cons_zero, List.getElem?_cons_succ, List.setIfInBounds_toArray, List.set_cons_zero, List.set_cons_succ]
          (try dsimp only at hS')
          go_simp
          (try with_reducible rfl)
        -- 1: unOp Unnot 4 t129
        refine' chainP_read (d := (some 130)) _ rfl rfl (fun w' hS' => ?_) ?_; rotate_left
        · simp only [lookP, allP, Act.put, List.getElem?_cons_zero, List.getElem?_cons_succ, List.setIfInBounds_toArray, List.set_cons_zero, List.set_cons_succ]
          (try dsimp only at hS')
          go_simp
          (try with_reducible rfl)
        -- 2: move t130
        refine' chainP_read (d := (some 131)) _ rfl rfl (fun w' hS' => ?_) ?_; rotate_left
        · simp only [lookP, allP, Act.put, List.getElem?_cons_zero, List.getElem?_cons_succ, List.setIfInBounds_toArray, List.set_cons_zero, List.set_cons_succ]
          (try dsimp only at hS')
          go_simp
          (try with_reducible rfl)
        -- 3: move t24
        refine' chainP_readG (d := (some 132)) _ rfl (fun w' hS' => ?_) ?_; rotate_left
        · simp only [lookP, allP, Act.put, List.getElem?_cons_zero, List.getElem?_cons_succ, List.setIfInBounds_toArray, List.set_cons_zero, List.set_cons_succ]
          refine ⟨by kernel_rfl, ?_⟩
          (try dsimp only at hS')
          go_simp
          (try with_reducible rfl)
        -- 4: unOp Unnot 4 t132
        refine' chainP_readG (d := (some 133)) _ rfl (fun w' hS' => ?_) ?_; rotate_left
        · simp only [lookP, allP, Act.put, List.getElem?_cons_zero, List.getElem?_cons_succ, List.setIfInBounds_toArray, List.set_cons_zero, List.set_cons_succ]
          refine ⟨by kernel_rfl, ?_⟩
          (try dsimp only at hS')
          go_simp
          (try with_reducible rfl)
        -- 5: pick t131 (const (bool true)) t133
        refine' chainP_read (d := (some 134)) _ rfl rfl (fun w' hS' => ?_) ?_; rotate_left
        · simp only [lookP, allP, Act.put, List.getElem?_cons_zero, List.getElem?_cons_succ, List.setIfInBounds_toArray, List.set_cons_zero, List.set_cons_succ]
          (try dsimp only at hS')
          go_simp
          (try with_reducible rfl)
        -- 6: move t134
        refine' chainP_read (d := (some 135)) _ rfl rfl (fun w' hS' => ?_) ?_; rotate_left
        · simp only [lookP, allP, Act.put, List.getElem?_cons_zero, List.getElem?_cons_succ, List.setIfInBounds_toArray, List.set_cons_zero, List.set_cons_succ]
          (try dsimp only at hS')
          go_simp
          (try with_reducible rfl)
        -- 7: load 58 t21
        refine' chainP_readG (d := (some 136)) _ rfl (fun w' hS' => ?_) ?_; rotate_left
        · simp only [lookP, allP, Act.put, List.getElem?_cons_zero, List.getElem?_cons_succ, List.setIfInBounds_toArray, List.set_cons_zero, List.set_cons_succ]
          refine ⟨by kernel_rfl, ?_⟩
          (try dsimp only at hS')
          go_simp
          (try with_reducible rfl)
        -- 8: move t9
        refine' chainP_readG (d := (some 137)) _ rfl (fun w' hS' => ?_) ?_; rotate_left
        · simp only [lookP, allP, Act.put, List.getElem?_cons_zero, List.getElem?_cons_succ, List.setIfInBounds_toArray, List.set_cons_zero, List.set_cons_succ]
          refine ⟨by kernel_rfl, ?_⟩
          (try dsimp only at hS')
          go_simp
          (try with_reducible rfl)
        -- 9: move t20
        refine' chainP_readG (d := (some 138)) _ rfl (fun w' hS' => ?_) ?_; rotate_left
        · simp only [lookP, allP, Act.put, List.getElem?_cons_zero, List.getElem?_cons_succ, List.setIfInBounds_toArray, List.set_cons_zero, List.set_cons_succ]
          refine ⟨by kernel_rfl, ?_⟩
          (try dsimp only at hS')
          go_simp
          (try with_reducible rfl)
        -- 10: indexAddr 52 t137 t138
        refine' chainP_readG (d := (some 139)) _ rfl (fun w' hS' => ?_) ?_; rotate_left
        · simp only [lookP, allP, Act.put, List.getElem?_cons_zero, List.getElem?_cons_succ, List.setIfInBounds_toArray, List.set_cons_zero, List.set_cons_succ]
          refine ⟨by kernel_rfl, ?_⟩
          (try dsimp only at hS')
          go_simp
          (try with_reducible rfl)
        -- 11: load 58 t139
        refine' chainP_readG (d := (some 140)) _ rfl (fun w' hS' => ?_) ?_; rotate_left
        · simp only [lookP, allP, Act.put, List.getElem?_cons_zero, List.getElem?_cons_succ, List.setIfInBounds_toArray, List.set_cons_zero, List.set_cons_succ]
          refine ⟨by kernel_rfl, ?_⟩
          (try dsimp only at hS')
          go_simp
          (try with_reducible rfl)
        -- 12: binOp Binneq 58 t136 t140 58
        refine' chainP_readG (d := (some 141)) _ rfl (fun w' hS' => ?_) ?_; rotate_left
        · simp only [lookP, allP, Act.put, List.getElem?_cons_zero, List.getElem?_cons_succ, List.setIfInBounds_toArray, List.set_cons_zero, List.set_cons_succ]
          refine ⟨by kernel_rfl, ?_⟩
          (try dsimp only at hS')
          go_simp
          (try with_reducible rfl)
        -- 13: pick t135 (const (bool true)) t141
        refine' chainP_read (d := (some 142)) _ rfl rfl (fun w' hS' => ?_) ?_; rotate_left
        · simp only [lookP, allP, Act.put, List.getElem?_cons_zero, List.getElem?_cons_succ, List.setIfInBounds_toArray, List.set_cons_zero, List.set_cons_succ]
          (try dsimp only at hS')
          go_simp
          (try with_reducible rfl)
        -- 14: move t142
        refine' chainP_read (d := (some 143)) _ rfl rfl (fun w' hS' => ?_) ?_; rotate_left
        · simp only [lookP, allP, Act.put, List.getElem?_cons_zero, List.getElem?_cons_succ, List.setIfInBounds_toArray, List.set_cons_zero, List.set_cons_succ]
          (try dsimp only at hS')
          go_simp
          (try with_reducible rfl)
        -- 15: load 58 t23
        refine' chainP_readG (d := (some 144)) _ rfl (fun w' hS' => ?_) ?_; rotate_left
        · simp only [lookP, allP, Act.put, List.getElem?_cons_zero, List.getElem?_cons_succ, List.setIfInBounds_toArray, List.set_cons_zero, List.set_cons_succ]
          refine ⟨by kernel_rfl, ?_⟩
          (try dsimp only at hS')
          go_simp
          (try with_reducible rfl)
        -- 16: move t7
        refine' chainP_readG (d := (some 145)) _ rfl (fun w' hS' => ?_) ?_; rotate_left
        · simp only [lookP, allP, Act.put, List.getElem?_cons_zero, List.getElem?_cons_succ, List.setIfInBounds_toArray, List.set_cons_zero, List.set_cons_succ]
          refine ⟨by kernel_rfl, ?_⟩
          (try dsimp only at hS')
          go_simp
          (try with_reducible rfl)
        -- 17: move t20
        refine' chainP_readG (d := (some 146)) _ rfl (fun w' hS' => ?_) ?_; rotate_left
        · simp only [lookP, allP, Act.put, List.getElem?_cons_zero, List.getElem?_cons_succ, List.setIfInBounds_toArray, List.set_cons_zero, List.set_cons_succ]
          refine ⟨by kernel_rfl, ?_⟩
          (try dsimp only at hS')
          go_simp
          (try with_reducible rfl)
        -- 18: indexAddr 52 t145 t146
        refine' chainP_readG (d := (some 147)) _ rfl (fun w' hS' => ?_) ?_; rotate_left
        · simp only [lookP, allP, Act.put, List.getElem?_cons_zero, List.getElem?_cons_succ, List.setIfInBounds_toArray, List.set_cons_zero, List.set_cons_succ]
          refine ⟨by kernel_rfl, ?_⟩
          (try dsimp only at hS')
          go_simp
          (try with_reducible rfl)
        -- 19: load 58 t147
        refine' chainP_readG (d := (some 148)) _ rfl (fun w' hS' => ?_) ?_; rotate_left
        · simp only [lookP, allP, Act.put, List.getElem?_cons_zero, List.getElem?_cons_succ, List.setIfInBounds_toArray, List.set_cons_zero, List.set_cons_succ]
          refine ⟨by kernel_rfl, ?_⟩
          (try dsimp only at hS')
          go_simp
          (try with_reducible rfl)
        -- 20: binOp Binneq 58 t144 t148 58
        refine' chainP_readG (d := (some 149)) _ rfl (fun w' hS' => ?_) ?_; rotate_left
        · simp only [lookP, allP, Act.put, List.getElem?_cons_zero, List.getElem?_cons_succ, List.setIfInBounds_toArray, List.set_cons_zero, List.set_cons_succ]
          refine ⟨by kernel_rfl, ?_⟩
          (try dsimp only at hS')
          go_simp
          (try with_reducible rfl)
        -- 21: pick t143 (const (bool true)) t149
        refine' chainP_read (d := (some 150)) _ rfl rfl (fun w' hS' => ?_) ?_; rotate_left
        · simp only [lookP, allP, Act.put, List.getElem?_cons_zero, List.getElem?_cons_succ, List.setIfInBounds_toArray, List.set_cons_zero, List.set_cons_succ]
          (try dsimp only at hS')
          go_simp
          (try with_reducible rfl)
        refine chainP_nil (fun uc hS' => ?_)
        simp only [allP, Act.put, List.setIfInBounds_toArray, List.set_cons_zero, List.set_cons_succ]
        have hq3 := hS'.1
        clear hS'
        replace hc := Below.next hc hq3
        replace y_x_0 := box_at y_x_0 hq3
        replace y_x_1 := box_at y_x_1 hq3
        replace y_z_0 := box_at y_z_0 hq3
        replace y_z_1 := box_at y_z_1 hq3
        replace d0 := box_at d0 hq3
        replace d1 := box_at d1 hq3
        replace e0 := box_at e0 hq3
        replace e1 := box_at e1 hq3
        clear hq3
        have HC3 := Lib.hid hc
        clear hc y_x_0 y_x_1 y_z_0 y_z_1 d0 d1 e0 e1
        go_wp2_with fail
        refine NoPanic.normal ?_
        go_wp2_with fail
        go_roundg (n1c - (k + 1))
        case measure => omega
        case rel => exact ⟨k + 1, by omega, by go_num, HBR.out.trans (((HC1.out.trans (HC2.out.mono HC1.out.size)).trans (HC3.out.mono (by have := HC1.out.size; have := HC2.out.size; omega))).mono HBR.out.size)⟩
      · obtain rfl : n1c = k := by omega
        have HBR := Lib.hid hbr
        clear hbr
        go_wp2_with fail
        go_ret
        exact ⟨rfl, HB.out.trans (HBR.out.mono HB.out.size)⟩
end Go.Proofs.Ytboahnklilmdpaa
