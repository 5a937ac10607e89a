/- The walk of FnHomomorphism (printed by gen_hom3.py). -/
import Derived.Test.YtboahnklilmdpaaHom2
import Derived.Test.YtboahnklilmdpaaHom3
import Derived.Test.YtboahnklilmdpaaRegR
import Derived.Deep.Cut
namespace Go.Proofs.Ytboahnklilmdpaa
open Go.RowKit
set_option linter.unusedSimpArgs false
set_option linter.unusedVariables false

theorem I64_wrap64 (n : Int) : I64 (wrap64 n) := by unfold wrap64; constructor <;> omega
theorem I64_wrap (n : Int) : I64 (IntKind.i64.wrap n) := by rw [IntKind.wrap_i64]; constructor <;> omega
set_option maxRecDepth 100000 in
set_option maxHeartbeats 8000000 in
theorem law_Homomorphism (va vb : Value) (w : World) (h1 : Bytes w va) (h2 : Bytes w vb) :
    Calls Try.prog 5 #[va, vb] w fun e w' => e = .returned (.bool true) ∧ Below w.heap.size w w' := by
  obtain ⟨a, m, c, rfl, k1, k2, hv⟩ := h1
  obtain ⟨a', m', c', rfl, k3, k4, hv'⟩ := h2
  have H1 : Hid (Bytes w (.slice a m c)) := ⟨a, m, c, rfl, k1, k2, hv⟩
  have H2 : Hid (Bytes w (.slice a' m' c')) := ⟨a', m', c', rfl, k3, k4, hv'⟩
  clear hv hv'
  unfold maxLen at k2 k4
  by_cases hbig : (1048576 : Int) < wrap64 ((m : Int) + (m' : Int))
  · go_enter Try.func5, Try.ntmps5
    go_wp2_with fail
    go_ret
    exact ⟨rfl, Below.refl _ _⟩
  have HB : Hid (Below w.heap.size w w) := Below.refl _ _
  go_enter Try.func5, Try.ntmps5
  go_wp2_with fail
  try (go_wp2_with fail)
  refine (spec_DrawWeightedProduct _ _ (H1.out.below HB.out)).mono ?_
  rintro e u1 ⟨⟨P1a, Q1a, G1a, v1b, l1b, v1c, l1c, rfl, hgr1a, ⟨hs1b, hl1b⟩, ⟨hs1c, hl1c⟩⟩, hb⟩
  clear hgr1a
  have HL1b := Lib.hid hs1b
  obtain ⟨a1b, n1b, c1b, rfl⟩ := hs1b.shape
  have HE1b := Lib.hid hs1b.len
  clear hs1b
  have HL1c := Lib.hid hs1c
  obtain ⟨a1c, n1c, c1c, rfl⟩ := hs1c.shape
  have HE1c := Lib.hid hs1c.len
  clear hs1c
  replace HB := Lib.hid (Below.next HB.out hb)
  clear hb
  obtain ⟨V2, hV⟩ : ∃ V, V = u1.alloc (.cells #[.int .i64 P1a, .int .i64 Q1a, .int .i64 G1a] 39) := ⟨_, rfl⟩
  have hbV : Below u1.heap.size u1 V2 := by rw [hV]; (repeat (first | exact Below.refl _ _ | assumption | refine Below.drew ?_ | refine Below.alloc ?_ (by first | (simp; done) | (simp; omega)) _ | refine Below.setCell ?_ (by first | (simp; done) | (simp; omega)) _))
  have HZ1 : Hid (BoxN V2 u1.heap.size 39 [.int .i64 P1a, .int .i64 Q1a, .int .i64 G1a]) := by unfold Hid; rw [hV]; have h := (BoxN.new u1 [.int .i64 P1a, .int .i64 Q1a, .int .i64 G1a] 39); simpa using h
  try (go_wp2_with fail)
  rw [← hV]
  clear hV
  replace HB := Lib.hid (Below.next HB.out hbV)
  replace HL1b := Lib.hid (HL1b.out.below hbV)
  replace HL1c := Lib.hid (HL1c.out.below hbV)
  clear hbV
  have z_0_0 := HZ1.out.cell (i := 0) rfl
  have z_0_1 := HZ1.out.cell (i := 1) rfl
  have z_0_2 := HZ1.out.cell (i := 2) rfl
  try (go_wp2_with fail)
  clear z_0_0 z_0_1 z_0_2
  refine (impl_WeightedProduct ⟨P1a, Q1a, G1a⟩ _ l1b _ l1c _ HL1b.out HL1c.out).mono ?_
  rintro e u3 ⟨rfl, hb⟩
  obtain ⟨d3a, hd3a⟩ : ∃ r, wpR ⟨P1a, Q1a, G1a⟩ l1b l1c = r := ⟨_, rfl⟩
  have Hd3a := Lib.hid hd3a
  rw [hd3a]
  clear hd3a
  obtain ⟨q3b, hq3b⟩ : ∃ r, wpB ⟨P1a, Q1a, G1a⟩ l1b l1c = r := ⟨_, rfl⟩
  have Hq3b := Lib.hid hq3b
  rw [hq3b]
  clear hq3b
  replace HB := Lib.hid (Below.next HB.out hb)
  replace HZ1 := Lib.hid (HZ1.out.below hb)
  replace HL1b := Lib.hid (HL1b.out.below hb)
  replace HL1c := Lib.hid (HL1c.out.below hb)
  clear hb
  have z_0_0 := HZ1.out.cell (i := 0) rfl
  have z_0_1 := HZ1.out.cell (i := 1) rfl
  have z_0_2 := HZ1.out.cell (i := 2) rfl
  have lt_HZ1 := HZ1.out.lt
  obtain ⟨V4, hV⟩ : ∃ V, V = u3.alloc (.cells #[.int .i64 d3a.a, .int .i64 d3a.b] 58) := ⟨_, rfl⟩
  have hbV : Below u3.heap.size u3 V4 := by rw [hV]; (repeat (first | exact Below.refl _ _ | assumption | refine Below.drew ?_ | refine Below.alloc ?_ (by first | (simp; done) | (simp; omega)) _ | refine Below.setCell ?_ (by first | (simp; done) | (simp; omega)) _))
  have HZ2 : Hid (BoxN V4 u3.heap.size 58 [.int .i64 d3a.a, .int .i64 d3a.b]) := by unfold Hid; rw [hV]; have h := (BoxN.new u3 [.int .i64 d3a.a, .int .i64 d3a.b] 58); simpa using h
  try (go_wp2_with fail)
  rw [← hV]
  clear hV
  clear lt_HZ1
  clear z_0_0 z_0_1 z_0_2
  replace HB := Lib.hid (Below.next HB.out hbV)
  replace HZ1 := Lib.hid (HZ1.out.below hbV)
  replace HL1b := Lib.hid (HL1b.out.below hbV)
  replace HL1c := Lib.hid (HL1c.out.below hbV)
  clear hbV
  have z_0_0 := HZ1.out.cell (i := 0) rfl
  have z_0_1 := HZ1.out.cell (i := 1) rfl
  have z_0_2 := HZ1.out.cell (i := 2) rfl
  have z_1_0 := HZ2.out.cell (i := 0) rfl
  have z_1_1 := HZ2.out.cell (i := 1) rfl
  try (go_wp2_with fail)
  clear z_0_0 z_0_1 z_0_2 z_1_0 z_1_1
  refine (spec_WeightedProduct ⟨P1a, Q1a, G1a⟩ _ l1b _ l1c _ HL1b.out HL1c.out).mono ?_
  rintro e u5 ⟨rfl, hb⟩
  rw [Hd3a.out]
  rw [Hq3b.out]
  replace HB := Lib.hid (Below.next HB.out hb)
  replace HZ1 := Lib.hid (HZ1.out.below hb)
  replace HZ2 := Lib.hid (HZ2.out.below hb)
  replace HL1b := Lib.hid (HL1b.out.below hb)
  replace HL1c := Lib.hid (HL1c.out.below hb)
  clear hb
  have z_0_0 := HZ1.out.cell (i := 0) rfl
  have z_0_1 := HZ1.out.cell (i := 1) rfl
  have z_0_2 := HZ1.out.cell (i := 2) rfl
  have z_1_0 := HZ2.out.cell (i := 0) rfl
  have z_1_1 := HZ2.out.cell (i := 1) rfl
  have lt_HZ1 := HZ1.out.lt
  have lt_HZ2 := HZ2.out.lt
  obtain ⟨V6, hV⟩ : ∃ V, V = u5.alloc (.cells #[.int .i64 d3a.a, .int .i64 d3a.b] 58) := ⟨_, rfl⟩
  have hbV : Below u5.heap.size u5 V6 := by rw [hV]; (repeat (first | exact Below.refl _ _ | assumption | refine Below.drew ?_ | refine Below.alloc ?_ (by first | (simp; done) | (simp; omega)) _ | refine Below.setCell ?_ (by first | (simp; done) | (simp; omega)) _))
  have HZ3 : Hid (BoxN V6 u5.heap.size 58 [.int .i64 d3a.a, .int .i64 d3a.b]) := by unfold Hid; rw [hV]; have h := (BoxN.new u5 [.int .i64 d3a.a, .int .i64 d3a.b] 58); simpa using h
  try (go_wp2_with fail)
  rw [← hV]
  clear hV
  clear lt_HZ1
  clear lt_HZ2
  clear z_0_0 z_0_1 z_0_2 z_1_0 z_1_1
  replace HB := Lib.hid (Below.next HB.out hbV)
  replace HZ1 := Lib.hid (HZ1.out.below hbV)
  replace HZ2 := Lib.hid (HZ2.out.below hbV)
  replace HL1b := Lib.hid (HL1b.out.below hbV)
  replace HL1c := Lib.hid (HL1c.out.below hbV)
  clear hbV
  have z_0_0 := HZ1.out.cell (i := 0) rfl
  have z_0_1 := HZ1.out.cell (i := 1) rfl
  have z_0_2 := HZ1.out.cell (i := 2) rfl
  have z_1_0 := HZ2.out.cell (i := 0) rfl
  have z_1_1 := HZ2.out.cell (i := 1) rfl
  have z_2_0 := HZ3.out.cell (i := 0) rfl
  have z_2_1 := HZ3.out.cell (i := 1) rfl
  try (go_wp2_with fail)
  clear z_0_0 z_0_1 z_0_2 z_1_0 z_1_1 z_2_0 z_2_1
  refine (spec_DrawDecryptExp _ _ (H2.out.below HB.out)).mono ?_
  rintro e u7 ⟨⟨P7a, Q7a, G7a, x7b, x7c, y7c, x7d, rfl, hgr7a, ⟨x7bl, x7bu⟩, ⟨⟨x7cl, x7cu⟩, ⟨y7cl, y7cu⟩⟩, ⟨x7dl, x7du⟩⟩, hb⟩
  clear hgr7a
  replace HB := Lib.hid (Below.next HB.out hb)
  replace HZ1 := Lib.hid (HZ1.out.below hb)
  replace HZ2 := Lib.hid (HZ2.out.below hb)
  replace HZ3 := Lib.hid (HZ3.out.below hb)
  replace HL1b := Lib.hid (HL1b.out.below hb)
  replace HL1c := Lib.hid (HL1c.out.below hb)
  clear hb
  have z_0_0 := HZ1.out.cell (i := 0) rfl
  have z_0_1 := HZ1.out.cell (i := 1) rfl
  have z_0_2 := HZ1.out.cell (i := 2) rfl
  have z_1_0 := HZ2.out.cell (i := 0) rfl
  have z_1_1 := HZ2.out.cell (i := 1) rfl
  have z_2_0 := HZ3.out.cell (i := 0) rfl
  have z_2_1 := HZ3.out.cell (i := 1) rfl
  have lt_HZ1 := HZ1.out.lt
  have lt_HZ2 := HZ2.out.lt
  have lt_HZ3 := HZ3.out.lt
  obtain ⟨V8, hV⟩ : ∃ V, V = (u7.alloc (.cells #[.int .i64 P7a, .int .i64 Q7a, .int .i64 G7a] 39)).alloc (.cells #[.int .i64 x7c, .int .i64 y7c] 58) := ⟨_, rfl⟩
  have hbV : Below u7.heap.size u7 V8 := by rw [hV]; (repeat (first | exact Below.refl _ _ | assumption | refine Below.drew ?_ | refine Below.alloc ?_ (by first | (simp; done) | (simp; omega)) _ | refine Below.setCell ?_ (by first | (simp; done) | (simp; omega)) _))
  have HZ4 : Hid (BoxN V8 u7.heap.size 39 [.int .i64 P7a, .int .i64 Q7a, .int .i64 G7a]) := by unfold Hid; rw [hV]; have h := ((BoxN.new u7 [.int .i64 P7a, .int .i64 Q7a, .int .i64 G7a] 39).alloc (.cells #[.int .i64 x7c, .int .i64 y7c] 58)); simpa using h
  have HZ5 : Hid (BoxN V8 (u7.heap.size + 1) 58 [.int .i64 x7c, .int .i64 y7c]) := by unfold Hid; rw [hV]; have h := (BoxN.new (u7.alloc (.cells #[.int .i64 P7a, .int .i64 Q7a, .int .i64 G7a] 39)) [.int .i64 x7c, .int .i64 y7c] 58); simpa using h
  try (go_wp2_with fail)
  rw [← hV]
  clear hV
  clear lt_HZ1
  clear lt_HZ2
  clear lt_HZ3
  clear z_0_0 z_0_1 z_0_2 z_1_0 z_1_1 z_2_0 z_2_1
  replace HB := Lib.hid (Below.next HB.out hbV)
  replace HZ1 := Lib.hid (HZ1.out.below hbV)
  replace HZ2 := Lib.hid (HZ2.out.below hbV)
  replace HZ3 := Lib.hid (HZ3.out.below hbV)
  replace HL1b := Lib.hid (HL1b.out.below hbV)
  replace HL1c := Lib.hid (HL1c.out.below hbV)
  clear hbV
  have z_0_0 := HZ1.out.cell (i := 0) rfl
  have z_0_1 := HZ1.out.cell (i := 1) rfl
  have z_0_2 := HZ1.out.cell (i := 2) rfl
  have z_1_0 := HZ2.out.cell (i := 0) rfl
  have z_1_1 := HZ2.out.cell (i := 1) rfl
  have z_2_0 := HZ3.out.cell (i := 0) rfl
  have z_2_1 := HZ3.out.cell (i := 1) rfl
  have z_3_0 := HZ4.out.cell (i := 0) rfl
  have z_3_1 := HZ4.out.cell (i := 1) rfl
  have z_3_2 := HZ4.out.cell (i := 2) rfl
  have z_4_0 := HZ5.out.cell (i := 0) rfl
  have z_4_1 := HZ5.out.cell (i := 1) rfl
  try (go_wp2_with fail)
  clear z_0_0 z_0_1 z_0_2 z_1_0 z_1_1 z_2_0 z_2_1 z_3_0 z_3_1 z_3_2 z_4_0 z_4_1
  refine (impl_DecryptExp ⟨P7a, Q7a, G7a⟩ x7b ⟨x7c, y7c⟩ x7d _ (ciOf (by omega) (by omega) (by omega) (by omega)) ⟨by omega, by omega⟩).mono ?_
  rintro e u9 ⟨rfl, hb⟩
  obtain ⟨r9a, hr9a⟩ : ∃ r, dyR ⟨P7a, Q7a, G7a⟩ x7b ⟨x7c, y7c⟩ x7d = r := ⟨_, rfl⟩
  have Hr9a := Lib.hid hr9a
  rw [hr9a]
  clear hr9a
  obtain ⟨q9b, hq9b⟩ : ∃ r, dyB ⟨P7a, Q7a, G7a⟩ x7b ⟨x7c, y7c⟩ x7d = r := ⟨_, rfl⟩
  have Hq9b := Lib.hid hq9b
  rw [hq9b]
  clear hq9b
  replace HB := Lib.hid (Below.next HB.out hb)
  replace HZ1 := Lib.hid (HZ1.out.below hb)
  replace HZ2 := Lib.hid (HZ2.out.below hb)
  replace HZ3 := Lib.hid (HZ3.out.below hb)
  replace HZ4 := Lib.hid (HZ4.out.below hb)
  replace HZ5 := Lib.hid (HZ5.out.below hb)
  replace HL1b := Lib.hid (HL1b.out.below hb)
  replace HL1c := Lib.hid (HL1c.out.below hb)
  clear hb
  have z_0_0 := HZ1.out.cell (i := 0) rfl
  have z_0_1 := HZ1.out.cell (i := 1) rfl
  have z_0_2 := HZ1.out.cell (i := 2) rfl
  have z_1_0 := HZ2.out.cell (i := 0) rfl
  have z_1_1 := HZ2.out.cell (i := 1) rfl
  have z_2_0 := HZ3.out.cell (i := 0) rfl
  have z_2_1 := HZ3.out.cell (i := 1) rfl
  have z_3_0 := HZ4.out.cell (i := 0) rfl
  have z_3_1 := HZ4.out.cell (i := 1) rfl
  have z_3_2 := HZ4.out.cell (i := 2) rfl
  have z_4_0 := HZ5.out.cell (i := 0) rfl
  have z_4_1 := HZ5.out.cell (i := 1) rfl
  try (go_wp2_with fail)
  clear z_0_0 z_0_1 z_0_2 z_1_0 z_1_1 z_2_0 z_2_1 z_3_0 z_3_1 z_3_2 z_4_0 z_4_1
  refine (spec_DecryptExp ⟨P7a, Q7a, G7a⟩ x7b ⟨x7c, y7c⟩ x7d _ (ciOf (by omega) (by omega) (by omega) (by omega)) ⟨by omega, by omega⟩).mono ?_
  rintro e u10 ⟨rfl, hb⟩
  rw [Hr9a.out]
  rw [Hq9b.out]
  replace HB := Lib.hid (Below.next HB.out hb)
  replace HZ1 := Lib.hid (HZ1.out.below hb)
  replace HZ2 := Lib.hid (HZ2.out.below hb)
  replace HZ3 := Lib.hid (HZ3.out.below hb)
  replace HZ4 := Lib.hid (HZ4.out.below hb)
  replace HZ5 := Lib.hid (HZ5.out.below hb)
  replace HL1b := Lib.hid (HL1b.out.below hb)
  replace HL1c := Lib.hid (HL1c.out.below hb)
  clear hb
  have eq_q3b : (q3b == q3b) = true := by simp
  have eq_d3a_a : (d3a.a == d3a.a) = true := by simp
  have eq_d3a_b : (d3a.b == d3a.b) = true := by simp
  have eq_q9b : (q9b == q9b) = true := by simp
  have eq_r9a : (r9a == r9a) = true := by simp
  have z_0_0 := HZ1.out.cell (i := 0) rfl
  have z_0_1 := HZ1.out.cell (i := 1) rfl
  have z_0_2 := HZ1.out.cell (i := 2) rfl
  have z_1_0 := HZ2.out.cell (i := 0) rfl
  have z_1_1 := HZ2.out.cell (i := 1) rfl
  have z_2_0 := HZ3.out.cell (i := 0) rfl
  have z_2_1 := HZ3.out.cell (i := 1) rfl
  have z_3_0 := HZ4.out.cell (i := 0) rfl
  have z_3_1 := HZ4.out.cell (i := 1) rfl
  have z_3_2 := HZ4.out.cell (i := 2) rfl
  have z_4_0 := HZ5.out.cell (i := 0) rfl
  have z_4_1 := HZ5.out.cell (i := 1) rfl
  go_upto_if 105 with fail
  clear z_0_0 z_0_1 z_0_2 z_1_0 z_1_1 z_2_0 z_2_1 z_3_0 z_3_1 z_3_2 z_4_0 z_4_1
  go_cut [] from 38 (fun wx => Hid (Below u10.heap.size u10 wx))
  case first =>
    have HCB : Hid (Below u10.heap.size u10 u10) := Below.refl _ _
    cases q9b with
    | false =>
      have z_0_0 := HZ1.out.cell (i := 0) rfl
      have z_0_1 := HZ1.out.cell (i := 1) rfl
      have z_0_2 := HZ1.out.cell (i := 2) rfl
      have z_1_0 := HZ2.out.cell (i := 0) rfl
      have z_1_1 := HZ2.out.cell (i := 1) rfl
      have z_2_0 := HZ3.out.cell (i := 0) rfl
      have z_2_1 := HZ3.out.cell (i := 1) rfl
      have z_3_0 := HZ4.out.cell (i := 0) rfl
      have z_3_1 := HZ4.out.cell (i := 1) rfl
      have z_3_2 := HZ4.out.cell (i := 2) rfl
      have z_4_0 := HZ5.out.cell (i := 0) rfl
      have z_4_1 := HZ5.out.cell (i := 1) rfl
      try (go_wp2_with fail)
      clear z_0_0 z_0_1 z_0_2 z_1_0 z_1_1 z_2_0 z_2_1 z_3_0 z_3_1 z_3_2 z_4_0 z_4_1
      go_meet
      exact HCB
    | true =>
      obtain ⟨hdb, j, hj, hjq, hxb, hxr⟩ := dy_parts Hq9b.out
      replace hjq : (j : Int) < Q7a := hjq
      have HDB := Lib.hid hdb
      have HXB := Lib.hid hxb
      have HG2 := Lib.hid (goodG_ok (deB_parts hdb).1)
      have hq21 : 2 ≤ Q7a := HG2.out.q1
      have hq22 : Q7a ≤ P7a - 1 := HG2.out.q2
      have hp22 : P7a ≤ 2000000000 := HG2.out.p2
      have hrj : r9a = (j : Int) := Hr9a.out.symm.trans hj
      subst hrj
      have HXR0 := Lib.hid hxr
      clear hdb hxb hxr hj
      have z_0_0 := HZ1.out.cell (i := 0) rfl
      have z_0_1 := HZ1.out.cell (i := 1) rfl
      have z_0_2 := HZ1.out.cell (i := 2) rfl
      have z_1_0 := HZ2.out.cell (i := 0) rfl
      have z_1_1 := HZ2.out.cell (i := 1) rfl
      have z_2_0 := HZ3.out.cell (i := 0) rfl
      have z_2_1 := HZ3.out.cell (i := 1) rfl
      have z_3_0 := HZ4.out.cell (i := 0) rfl
      have z_3_1 := HZ4.out.cell (i := 1) rfl
      have z_3_2 := HZ4.out.cell (i := 2) rfl
      have z_4_0 := HZ5.out.cell (i := 0) rfl
      have z_4_1 := HZ5.out.cell (i := 1) rfl
      try (go_wp2_with fail)
      clear z_0_0 z_0_1 z_0_2 z_1_0 z_1_1 z_2_0 z_2_1 z_3_0 z_3_1 z_3_2 z_4_0 z_4_1
      refine (impl_DecryptElement ⟨P7a, Q7a, G7a⟩ x7b ⟨x7c, y7c⟩ _ (ciOf (by omega) (by omega) (by omega) (by omega)) ⟨by omega, by omega⟩).mono ?_
      rintro e u11 ⟨rfl, hb⟩
      rw [HDB.out]
      obtain ⟨r11, hr11⟩ : ∃ r, deR ⟨P7a, Q7a, G7a⟩ x7b ⟨x7c, y7c⟩ = r := ⟨_, rfl⟩
      have Hr11 := Lib.hid hr11
      rw [hr11]
      clear hr11
      have HXR : Hid (exR ⟨P7a, Q7a, G7a⟩ G7a (j : Int) = r11) := by unfold Hid; rw [HXR0.out]; exact Hr11.out
      have eq_dx : (r11 == r11) = true := by simp
      replace HB := Lib.hid (Below.next HB.out hb)
      replace HCB := Lib.hid (Below.next HCB.out hb)
      replace HZ1 := Lib.hid (HZ1.out.below hb)
      replace HZ2 := Lib.hid (HZ2.out.below hb)
      replace HZ3 := Lib.hid (HZ3.out.below hb)
      replace HZ4 := Lib.hid (HZ4.out.below hb)
      replace HZ5 := Lib.hid (HZ5.out.below hb)
      replace HL1b := Lib.hid (HL1b.out.below hb)
      replace HL1c := Lib.hid (HL1c.out.below hb)
      clear hb
      have z_0_0 := HZ1.out.cell (i := 0) rfl
      have z_0_1 := HZ1.out.cell (i := 1) rfl
      have z_0_2 := HZ1.out.cell (i := 2) rfl
      have z_1_0 := HZ2.out.cell (i := 0) rfl
      have z_1_1 := HZ2.out.cell (i := 1) rfl
      have z_2_0 := HZ3.out.cell (i := 0) rfl
      have z_2_1 := HZ3.out.cell (i := 1) rfl
      have z_3_0 := HZ4.out.cell (i := 0) rfl
      have z_3_1 := HZ4.out.cell (i := 1) rfl
      have z_3_2 := HZ4.out.cell (i := 2) rfl
      have z_4_0 := HZ5.out.cell (i := 0) rfl
      have z_4_1 := HZ5.out.cell (i := 1) rfl
      try (go_wp2_with fail)
      clear z_0_0 z_0_1 z_0_2 z_1_0 z_1_1 z_2_0 z_2_1 z_3_0 z_3_1 z_3_2 z_4_0 z_4_1
      have c0 := HZ4.out.cell (i := 0) rfl
      have c1 := HZ4.out.cell (i := 1) rfl
      have c2 := HZ4.out.cell (i := 2) rfl
      have et : Int.tmod (j : Int) Q7a = (j : Int) := by rw [Int.tmod_eq_emod_of_nonneg (by omega), Int.emod_eq_of_lt (by omega) hjq]
      have ewj : IntKind.i64.wrap (j : Int) = (j : Int) := IntWalk.i64_in _ (by omega)
      have hqz : ¬ Q7a = 0 := by omega
      have hqz2 : (Q7a == 0) = false := by rw [beq_eq_false_iff_ne]; omega
      have hc : Below u11.heap.size u11 u11 := Below.refl _ _
      go_wp2_with fail
      try (go_wp2_with fail)
      refine wp_region_noPanic ?_
      refine wp_region_P (fun w' => w'.cell? ⟨u7.heap.size, 0, none⟩ = some (.int .i64 P7a) ∧ w'.cell? ⟨u7.heap.size, 1, none⟩ = some (.int .i64 Q7a) ∧ w'.cell? ⟨u7.heap.size, 2, none⟩ = some (.int .i64 G7a)) 15 [(0, []), (1, []), (2, [0]), (3, []), (4, []), (5, [0]), (6, [2, 0]), (7, [6, 4, 0]), (8, [0]), (9, [0]), (10, [1]), (11, [1]), (12, [1])] [] (by kernel_rfl) (by kernel_rfl) (by kernel_rfl) rfl (fun _ _ _ _ h => h) (fun w' h => ⟨box_at c0 h, box_at c1 h, box_at c2 h⟩) ?_
      simp only [pickP, pickN, List.getElem?_cons_zero, List.getElem?_cons_succ]
      iterate 7 (refine' chainP_read _ rfl rfl (fun w' hS' => ?_) ?_; rotate_left; · (simp only [lookP, allP, Act.put, List.getElem?_cons_zero, List.getElem?_cons_succ, List.setIfInBounds_toArray, List.set_cons_zero, List.set_cons_succ]; (try dsimp only at hS'); go_simp; (try with_reducible rfl)))
      -- 7: call { callee := value (func 43), args := #[t114, t116, t120], argTypes := #[39, 3, 3] }
      refine chainP_call (d := (some 121)) (.tuple #[.int .i64 r11, .bool true]) rfl rfl (fun w' hS' => ?_) ?_
      · simp only [lookP, allP, Act.put, List.getElem?_cons_zero, List.getElem?_cons_succ, List.setIfInBounds_toArray, List.set_cons_zero, List.set_cons_succ]
        intro K hK
        go_simp
        go_at_call 43
        refine (impl_ExpOf ⟨P7a, Q7a, G7a⟩ G7a (j : Int) _ ⟨by omega, by omega⟩).mono ?_
        rintro e u ⟨rfl, hq⟩
        rw [HXB.out, HXR.out]
        exact hK.out _ hq
      iterate 5 (refine' chainP_read _ rfl rfl (fun w' hS' => ?_) ?_; rotate_left; · (simp only [lookP, allP, Act.put, List.getElem?_cons_zero, List.getElem?_cons_succ, List.setIfInBounds_toArray, List.set_cons_zero, List.set_cons_succ]; (try dsimp only at hS'); go_simp; (try with_reducible rfl)))
      refine chainP_nil (fun ux hS' => ?_)
      simp only [allP, Act.put, List.setIfInBounds_toArray, List.set_cons_zero, List.set_cons_succ]
      have hq1 := hS'.1
      clear hS'
      replace hc := Below.next hc hq1
      replace c0 := box_at c0 hq1
      replace c1 := box_at c1 hq1
      replace c2 := box_at c2 hq1
      clear hq1
      clear c0 c1 c2
      replace HB := Lib.hid (Below.next HB.out hc)
      replace HCB := Lib.hid (Below.next HCB.out hc)
      replace HZ1 := Lib.hid (HZ1.out.below hc)
      replace HZ2 := Lib.hid (HZ2.out.below hc)
      replace HZ3 := Lib.hid (HZ3.out.below hc)
      replace HZ4 := Lib.hid (HZ4.out.below hc)
      replace HZ5 := Lib.hid (HZ5.out.below hc)
      replace HL1b := Lib.hid (HL1b.out.below hc)
      replace HL1c := Lib.hid (HL1c.out.below hc)
      clear hc
      go_wp2_with fail
      refine NoPanic.normal ?_
      have eq_r11 : (r11 == r11) = true := by simp
      have z_0_0 := HZ1.out.cell (i := 0) rfl
      have z_0_1 := HZ1.out.cell (i := 1) rfl
      have z_0_2 := HZ1.out.cell (i := 2) rfl
      have z_1_0 := HZ2.out.cell (i := 0) rfl
      have z_1_1 := HZ2.out.cell (i := 1) rfl
      have z_2_0 := HZ3.out.cell (i := 0) rfl
      have z_2_1 := HZ3.out.cell (i := 1) rfl
      have z_3_0 := HZ4.out.cell (i := 0) rfl
      have z_3_1 := HZ4.out.cell (i := 1) rfl
      have z_3_2 := HZ4.out.cell (i := 2) rfl
      have z_4_0 := HZ5.out.cell (i := 0) rfl
      have z_4_1 := HZ5.out.cell (i := 1) rfl
      try (go_wp2_with fail)
      clear z_0_0 z_0_1 z_0_2 z_1_0 z_1_1 z_2_0 z_2_1 z_3_0 z_3_1 z_3_2 z_4_0 z_4_1
      go_meet
      exact HCB
  case rest =>
    have hct := hcut.out
    clear hcut
    replace HB := Lib.hid (Below.next HB.out hct)
    replace HZ1 := Lib.hid (HZ1.out.below hct)
    replace HZ2 := Lib.hid (HZ2.out.below hct)
    replace HZ3 := Lib.hid (HZ3.out.below hct)
    replace HZ4 := Lib.hid (HZ4.out.below hct)
    replace HZ5 := Lib.hid (HZ5.out.below hct)
    replace HL1b := Lib.hid (HL1b.out.below hct)
    replace HL1c := Lib.hid (HL1c.out.below hct)
    clear hct
    cases q3b with
    | false =>
      have z_0_0 := HZ1.out.cell (i := 0) rfl
      have z_0_1 := HZ1.out.cell (i := 1) rfl
      have z_0_2 := HZ1.out.cell (i := 2) rfl
      have z_1_0 := HZ2.out.cell (i := 0) rfl
      have z_1_1 := HZ2.out.cell (i := 1) rfl
      have z_2_0 := HZ3.out.cell (i := 0) rfl
      have z_2_1 := HZ3.out.cell (i := 1) rfl
      have z_3_0 := HZ4.out.cell (i := 0) rfl
      have z_3_1 := HZ4.out.cell (i := 1) rfl
      have z_3_2 := HZ4.out.cell (i := 2) rfl
      have z_4_0 := HZ5.out.cell (i := 0) rfl
      have z_4_1 := HZ5.out.cell (i := 1) rfl
      try (go_wp2_with fail)
      clear z_0_0 z_0_1 z_0_2 z_1_0 z_1_1 z_2_0 z_2_1 z_3_0 z_3_1 z_3_2 z_4_0 z_4_1
      go_ret
      exact ⟨rfl, HB.out⟩
    | true =>
      have HWB := Lib.hid (wpB_parts Hq3b.out)
      have HGD := Lib.hid HWB.out.1
      have HG := Lib.hid (goodG_ok HGD.out)
      have hq1 : 2 ≤ Q1a := HG.out.q1
      have hq2 : Q1a ≤ P1a - 1 := HG.out.q2
      have hp2 : P1a ≤ 2000000000 := HG.out.p2
      have z_0_0 := HZ1.out.cell (i := 0) rfl
      have z_0_1 := HZ1.out.cell (i := 1) rfl
      have z_0_2 := HZ1.out.cell (i := 2) rfl
      have z_1_0 := HZ2.out.cell (i := 0) rfl
      have z_1_1 := HZ2.out.cell (i := 1) rfl
      have z_2_0 := HZ3.out.cell (i := 0) rfl
      have z_2_1 := HZ3.out.cell (i := 1) rfl
      have z_3_0 := HZ4.out.cell (i := 0) rfl
      have z_3_1 := HZ4.out.cell (i := 1) rfl
      have z_3_2 := HZ4.out.cell (i := 2) rfl
      have z_4_0 := HZ5.out.cell (i := 0) rfl
      have z_4_1 := HZ5.out.cell (i := 1) rfl
      try (go_wp2_with fail)
      refine' (laws_qModE _ Q1a _ ?hn (by omega) (by omega)).mono ?_
      case hn => first | exact I64_wrap64 _ | exact I64_wrap _
      rintro e w9 ⟨⟨s0, rfl, hs0, hs1⟩, rfl⟩
      clear z_0_0 z_0_1 z_0_2 z_1_0 z_1_1 z_2_0 z_2_1 z_3_0 z_3_1 z_3_2 z_4_0 z_4_1
      have HSI : Hid (I64 s0) := ⟨by omega, by omega⟩
      have HSE : Hid (expB ⟨P1a, Q1a, G1a⟩ s0 = true) := by unfold Hid expB; rw [decide_eq_true_iff]; exact ⟨hs0, by show s0 ≤ Q1a - 1; omega⟩
      have HT := Lib.hid (hom_tail Hq3b.out HSE.out)
      have HSW : Hid (SmallC d3a) := by unfold Hid; rw [← Hd3a.out]; exact (by have h := deB_parts HT.out.2.1; exact ciB_small HG.out h.2.2)
      have z_0_0 := HZ1.out.cell (i := 0) rfl
      have z_0_1 := HZ1.out.cell (i := 1) rfl
      have z_0_2 := HZ1.out.cell (i := 2) rfl
      have z_1_0 := HZ2.out.cell (i := 0) rfl
      have z_1_1 := HZ2.out.cell (i := 1) rfl
      have z_2_0 := HZ3.out.cell (i := 0) rfl
      have z_2_1 := HZ3.out.cell (i := 1) rfl
      have z_3_0 := HZ4.out.cell (i := 0) rfl
      have z_3_1 := HZ4.out.cell (i := 1) rfl
      have z_3_2 := HZ4.out.cell (i := 2) rfl
      have z_4_0 := HZ5.out.cell (i := 0) rfl
      have z_4_1 := HZ5.out.cell (i := 1) rfl
      try (go_wp2_with fail)
      clear z_0_0 z_0_1 z_0_2 z_1_0 z_1_1 z_2_0 z_2_1 z_3_0 z_3_1 z_3_2 z_4_0 z_4_1
      have HN1 : Hid (l1b.length = n1b) := HE1b.out
      have KL := Lib.hid HL1b.out.capMax
      have HLM : Hid ((l1b.map (deC ⟨P1a, Q1a, G1a⟩ s0)).length = n1b) := by unfold Hid; rw [List.length_map]; exact HN1.out
      have h24 : n1b ≤ 24 := by have h := HWB.out.2.1; unfold cisB at h; simp only [Bool.and_eq_true, decide_eq_true_iff] at h; have := h.1; have := HN1.out; omega
      have HOZ : Hid (OwnI wc wc.heap.size (.slice none 0 0) ((l1b.map (deC ⟨P1a, Q1a, G1a⟩ s0)).take 0)) := OwnI.nil _ _
      go_loopg [25, 148] n1b (fun gh ov iv wr => ∃ k : Nat, k + gh = n1b ∧ iv = .int .i64 k ∧ OwnI wr wc.heap.size ov ((l1b.map (deC ⟨P1a, Q1a, G1a⟩ s0)).take k) ∧ Below wc.heap.size wc wr)
      case atStart => exact ⟨0, by omega, rfl, HOZ.out, Below.refl _ _⟩
      case round =>
        obtain ⟨k, hkg, rfl, hown, hbr⟩ := hrel
        obtain ⟨ao, co, hv⟩ := hown.shape
        have HTK : Hid (k ≤ n1b → ((l1b.map (deC ⟨P1a, Q1a, G1a⟩ s0)).take k).length = k) := fun h => by rw [List.length_take, HLM.out]; omega
        rw [HTK.out (by omega)] at hv
        subst hv
        have HOW := Lib.hid hown
        clear hown
        by_cases hlt : k < n1b
        · have HK : Hid (k < l1b.length) := by unfold Hid; rw [HN1.out]; exact hlt
          have HDX : Hid (deB ⟨P1a, Q1a, G1a⟩ s0 (l1b[k]'HK.out) = true) := HT.out.2.2.2.2.1 _ (List.getElem_mem _)
          have HS := Lib.hid (mapD_succ (gr := ⟨P1a, Q1a, G1a⟩) (s := s0) HK.out)
          obtain ⟨b_x, o_x, rfl, hcx⟩ := HL1b.out.at_ (by omega)
          obtain ⟨us, hcell, hrd⟩ := hcx k HK.out
          clear hcx
          generalize l1b[k]'HK.out = x at hrd HDX HS
          obtain ⟨ers, jx_0, jx_1⟩ := rdCipher.1 ⟨us, rfl, hrd⟩
          obtain rfl : us = [.int .i64 x.a, .int .i64 x.b] := by have h := Value.agg.inj ers; simpa using congrArg Array.toList h
          clear ers hrd
          have y_x_0 : wr.cell? ⟨b_x, o_x + k * 2, none⟩ = some (.int .i64 x.a) := box_at (hcell 0 (by decide)) hbr
          have y_x_1 : wr.cell? ⟨b_x, o_x + k * 2 + 1, none⟩ = some (.int .i64 x.b) := box_at (hcell 1 (by decide)) hbr
          clear hcell
          have HR_x := Lib.hid ((kS rCipher).rd_below (rdCipher.2 ⟨rfl, jx_0, jx_1⟩ : (kS rCipher).rd wc (.agg #[.int .i64 x.a, .int .i64 x.b]) x) hbr)
          have J_x_0 := Lib.hid jx_0
          have J_x_1 := Lib.hid jx_1
          clear jx_0 jx_1
          have HDR1 : Hid (deR ⟨P1a, Q1a, G1a⟩ s0 x = deC ⟨P1a, Q1a, G1a⟩ s0 x) := deR_eq HDX.out
          have HXS : Hid (SmallCI x) := SmallC.ci (ciB_small HG.out (deB_parts HDX.out).2.2)
          have HDS : Hid (I64 (deC ⟨P1a, Q1a, G1a⟩ s0 x)) := small_64 (deC_small HG.out s0 x)
          obtain ⟨y, hy⟩ : ∃ y, deC ⟨P1a, Q1a, G1a⟩ s0 x = y := ⟨_, rfl⟩
          rw [hy] at HS HDR1 HDS
          clear hy
          have c0 := box_at (HZ1.out.cell (i := 0) rfl) hbr
          have c1 := box_at (HZ1.out.cell (i := 1) rfl) hbr
          have c2 := box_at (HZ1.out.cell (i := 2) rfl) hbr
          have hsr := hbr.size
          have hlz : u1.heap.size < wr.heap.size := by have := HZ1.out.lt; omega
          have hwk : IntKind.i64.wrap ((k : Int) + 1) = (k : Int) + 1 := IntWalk.i64_in _ (by omega)
          go_wp2_with fail
          refine (impl_DecryptElement ⟨P1a, Q1a, G1a⟩ s0 x _ HXS.out HSI.out).mono ?_
          rintro e u7 ⟨rfl, hq7⟩
          rw [HDX.out, HDR1.out]
          have hb7 : Below wr.heap.size wr u7 := Below.next (keep_al (Below.refl _ _) _) hq7
          clear hq7 c0 c1 c2
          have HOW7 := Lib.hid (HOW.out.below hb7)
          have HB7 := Lib.hid (Below.next hbr hb7)
          clear hb7 hbr
          go_wp2_with (at_builtin; refine wpList_append_ints rfl _ _ rfl wc.heap.size _ _ ((l1b.map (deC ⟨P1a, Q1a, G1a⟩ s0)).take k) [y] rfl (HOW7.out.alloc _) rfl (Ints.lit1 _ HDS.out) (by rw [HTK.out (by omega)]; simp; omega) (by have := HB7.out.size; simp; omega) ?_; intro v8 w8 hown8 hgr8)
          have hb8 := (HOW7.out.alloc _).grown hgr8 (by have := HB7.out.size; simp; omega)
          have hb9 : Below wc.heap.size wc w8 := (HB7.out.alloc HB7.out.size _).trans hb8
          go_roundg (n1b - (k + 1))
          case measure => omega
          case rel => exact ⟨k + 1, by omega, by go_num, by rw [HS.out]; exact hown8, hb9⟩
        · obtain rfl : n1b = k := by omega
          have HTE : Hid ((l1b.map (deC ⟨P1a, Q1a, G1a⟩ s0)).take n1b = l1b.map (deC ⟨P1a, Q1a, G1a⟩ s0)) := List.take_of_length_le (by rw [HLM.out]; exact Nat.le_refl _)
          rw [HTE.out] at HOW
          have HLM' := Lib.hid HOW.out.ints
          have hbz := hbr
          clear hbr
          replace HZ1 := Lib.hid (HZ1.out.below hbz)
          replace HZ2 := Lib.hid (HZ2.out.below hbz)
          replace HZ3 := Lib.hid (HZ3.out.below hbz)
          replace HZ4 := Lib.hid (HZ4.out.below hbz)
          replace HZ5 := Lib.hid (HZ5.out.below hbz)
          replace HL1b := Lib.hid (HL1b.out.below hbz)
          replace HL1c := Lib.hid (HL1c.out.below hbz)
          replace HB := Lib.hid (Below.next HB.out hbz)
          clear hbz
          obtain ⟨rP, hrP⟩ : ∃ r, ppR ⟨P1a, Q1a, G1a⟩ (l1b.map (deC ⟨P1a, Q1a, G1a⟩ s0)) l1c = r := ⟨_, rfl⟩
          have HPP := Lib.hid hrP
          have HDD : Hid (deB ⟨P1a, Q1a, G1a⟩ s0 d3a = true) := by unfold Hid; rw [← Hd3a.out]; exact HT.out.2.1
          have HDR : Hid (deR ⟨P1a, Q1a, G1a⟩ s0 d3a = rP) := by unfold Hid; rw [← Hd3a.out, ← HT.out.2.2.1]; exact hrP
          clear hrP
          obtain ⟨dm, hdm⟩ : ∃ r, mcR ⟨P1a, Q1a, G1a⟩ l1b = r := ⟨_, rfl⟩
          have HDM := Lib.hid hdm
          clear hdm
          have erP : (rP == rP) = true := by simp
          have edA : (dm.a == dm.a) = true := by simp
          have edB : (dm.b == dm.b) = true := by simp
          have c0 := HZ1.out.cell (i := 0) rfl
          have c1 := HZ1.out.cell (i := 1) rfl
          have c2 := HZ1.out.cell (i := 2) rfl
          go_wp2_with fail
          refine (impl_ProductOfPowers ⟨P1a, Q1a, G1a⟩ _ _ (l1b.map (deC ⟨P1a, Q1a, G1a⟩ s0)) l1c _ HLM'.out HL1c.out).mono ?_
          rintro e w5 ⟨rfl, hb⟩
          rw [HT.out.1, HPP.out]
          replace HZ1 := Lib.hid (HZ1.out.below hb)
          replace HZ2 := Lib.hid (HZ2.out.below hb)
          replace HZ3 := Lib.hid (HZ3.out.below hb)
          replace HZ4 := Lib.hid (HZ4.out.below hb)
          replace HZ5 := Lib.hid (HZ5.out.below hb)
          replace HL1b := Lib.hid (HL1b.out.below hb)
          replace HL1c := Lib.hid (HL1c.out.below hb)
          replace HB := Lib.hid (Below.next HB.out hb)
          clear hb c0 c1 c2
          have c0 := HZ1.out.cell (i := 0) rfl
          have c1 := HZ1.out.cell (i := 1) rfl
          have c2 := HZ1.out.cell (i := 2) rfl
          have e0 := HZ2.out.cell (i := 0) rfl
          have e1 := HZ2.out.cell (i := 1) rfl
          go_wp2_with fail
          refine (impl_DecryptElement ⟨P1a, Q1a, G1a⟩ s0 d3a _ (SmallC.ci HSW.out) HSI.out).mono ?_
          rintro e w6 ⟨rfl, hb⟩
          rw [HDD.out, HDR.out]
          replace HZ1 := Lib.hid (HZ1.out.below hb)
          replace HZ2 := Lib.hid (HZ2.out.below hb)
          replace HZ3 := Lib.hid (HZ3.out.below hb)
          replace HZ4 := Lib.hid (HZ4.out.below hb)
          replace HZ5 := Lib.hid (HZ5.out.below hb)
          replace HL1b := Lib.hid (HL1b.out.below hb)
          replace HL1c := Lib.hid (HL1c.out.below hb)
          replace HB := Lib.hid (Below.next HB.out hb)
          clear hb c0 c1 c2 e0 e1
          have c0 := HZ1.out.cell (i := 0) rfl
          have c1 := HZ1.out.cell (i := 1) rfl
          have c2 := HZ1.out.cell (i := 2) rfl
          go_wp2_with fail
          refine (impl_MulCiphers ⟨P1a, Q1a, G1a⟩ _ l1b _ HL1b.out).mono ?_
          rintro e w7 ⟨rfl, hb⟩
          rw [HT.out.2.2.2.1, HDM.out]
          replace HZ1 := Lib.hid (HZ1.out.below hb)
          replace HZ2 := Lib.hid (HZ2.out.below hb)
          replace HZ3 := Lib.hid (HZ3.out.below hb)
          replace HZ4 := Lib.hid (HZ4.out.below hb)
          replace HZ5 := Lib.hid (HZ5.out.below hb)
          replace HL1b := Lib.hid (HL1b.out.below hb)
          replace HL1c := Lib.hid (HL1c.out.below hb)
          replace HB := Lib.hid (Below.next HB.out hb)
          clear hb c0 c1 c2
          have c0 := HZ1.out.cell (i := 0) rfl
          have c1 := HZ1.out.cell (i := 1) rfl
          have c2 := HZ1.out.cell (i := 2) rfl
          have lt0 := HZ1.out.lt
          go_wp2_with fail
          have HLA := Lib.hid (HL1b.out.below ((Below.refl _ _).alloc (Nat.le_refl _) (.cells #[.int .i64 dm.a, .int .i64 dm.b] 58)))
          refine (impl_CipherSum ⟨P1a, Q1a, G1a⟩ _ l1b _ HLA.out).mono ?_
          rintro e w8 ⟨rfl, hb⟩
          have HB8 := Lib.hid (Below.next HB.out (Below.next (keep_al (Below.refl _ _) _) hb))
          have f0 := box_at (show (w7.alloc (.cells #[.int .i64 dm.a, .int .i64 dm.b] 58)).cell? ⟨w7.heap.size, 0, none⟩ = some (.int .i64 dm.a) by simp [go_sem]) hb
          have f1 := box_at (show (w7.alloc (.cells #[.int .i64 dm.a, .int .i64 dm.b] 58)).cell? ⟨w7.heap.size, 1, none⟩ = some (.int .i64 dm.b) by simp [go_sem]) hb
          have hl7 : w7.heap.size < w8.heap.size := by have := hb.size; simp at this; omega
          clear hb c0 c1 c2 lt0
          by_cases hn0 : n1b = 0
          · have HCB : Hid (csB ⟨P1a, Q1a, G1a⟩ l1b = false) := HT.out.2.2.2.2.2.1 (by rw [HN1.out]; exact hn0)
            rw [HCB.out]
            have hd0 : decide ((0 : Int) < (n1b : Int)) = false := decide_eq_false (by omega)
            go_wp2_with fail
            go_ret
            exact ⟨rfl, HB8.out.alloc HB8.out.size _⟩
          · have HCB := Lib.hid (HT.out.2.2.2.2.2.2 (by rw [HN1.out]; omega))
            rw [HCB.out.1, HCB.out.2, HDM.out]
            have hd0 : decide ((0 : Int) < (n1b : Int)) = true := decide_eq_true (by omega)
            have hpos : 0 < n1b := by omega
            have hnd : (decide ((0 : Int) < (n1b : Int)) == true) = true := by rw [hd0]; rfl
            go_wp2_with fail
            all_goals go_ret
            · exact ⟨rfl, HB8.out.alloc HB8.out.size _⟩
end Go.Proofs.Ytboahnklilmdpaa
