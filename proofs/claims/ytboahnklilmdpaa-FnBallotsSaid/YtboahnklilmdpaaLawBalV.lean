/- The walk of FnBallots (printed by gen_lawbal.py). -/
import Derived.Test.YtboahnklilmdpaaDrWV
import Derived.Test.YtboahnklilmdpaaBal7V
import Derived.Test.YtboahnklilmdpaaEqIV
import Derived.Test.YtboahnklilmdpaaBal2V
import Derived.Deep.Cut
namespace Go.Proofs.Ytboahnklilmdpaa
open Go.RowKit
set_option linter.unusedSimpArgs false
set_option linter.unusedVariables false
set_option maxRecDepth 100000 in
set_option maxHeartbeats 8000000 in
theorem law_Ballots (va vb : Value) (w : World) (h1 : Bytes w va) (h2 : Bytes w vb) :
    Calls Try.prog 8 #[va, vb] w fun e w' => e = .returned (.bool true) ∧ Below w.heap.size w w' := by
  obtain ⟨a, m, c, rfl, k1, k2, hv⟩ := h1
  obtain ⟨a', m', c', rfl, k3, k4, hv'⟩ := h2
  have H1 : Hid (Bytes w (.slice a m c)) := ⟨a, m, c, rfl, k1, k2, hv⟩
  have H2 : Hid (Bytes w (.slice a' m' c')) := ⟨a', m', c', rfl, k3, k4, hv'⟩
  clear hv hv'
  unfold maxLen at k2 k4
  by_cases hbig : (1048576 : Int) < wrap64 ((m : Int) + (m' : Int))
  · go_enter Try.func8, Try.ntmps8
    go_wp2_with fail
    go_ret
    exact ⟨rfl, Below.refl _ _⟩
  have HB : Hid (Below w.heap.size w w) := Below.refl _ _
  go_enter Try.func8, Try.ntmps8
  go_wp2_with fail
  try (go_wp2_with fail)
  refine (spec_DrawCastVote _ _ (H1.out.below HB.out)).mono ?_
  rintro e u1 ⟨⟨P1a, Q1a, G1a, x1b, x1c, x1d, v1e, l1e, rfl, hgr1a, ⟨x1bl, x1bu⟩, ⟨x1cl, x1cu⟩, ⟨x1dl, x1du⟩, ⟨hs1e, hl1e⟩⟩, hb⟩
  clear hgr1a
  have HL1e := Lib.hid hs1e
  obtain ⟨a1e, n1e, c1e, rfl⟩ := hs1e.shape
  have HE1e := Lib.hid hs1e.len
  clear hs1e
  replace HB := Lib.hid (Below.next HB.out hb)
  clear hb
  obtain ⟨V2, hV⟩ : ∃ V, V = u1.alloc (.cells #[.int .i64 P1a, .int .i64 Q1a, .int .i64 G1a] 39) := ⟨_, rfl⟩
  have hbV : Below u1.heap.size u1 V2 := by rw [hV]; (repeat (first | exact Below.refl _ _ | assumption | refine Below.drew ?_ | refine Below.alloc ?_ (by first | (simp; done) | (simp; omega)) _ | refine Below.setCell ?_ (by first | (simp; done) | (simp; omega)) _))
  have HZ1 : Hid (BoxN V2 u1.heap.size 39 [.int .i64 P1a, .int .i64 Q1a, .int .i64 G1a]) := by unfold Hid; rw [hV]; have h := (BoxN.new u1 [.int .i64 P1a, .int .i64 Q1a, .int .i64 G1a] 39); simpa using h
  try (go_wp2_with fail)
  rw [← hV]
  clear hV
  replace HB := Lib.hid (Below.next HB.out hbV)
  replace HL1e := Lib.hid (HL1e.out.below hbV)
  clear hbV
  have z_0_0 := HZ1.out.cell (i := 0) rfl
  have z_0_1 := HZ1.out.cell (i := 1) rfl
  have z_0_2 := HZ1.out.cell (i := 2) rfl
  try (go_wp2_with fail)
  clear z_0_0 z_0_1 z_0_2
  refine (impl_CastVote ⟨P1a, Q1a, G1a⟩ x1b x1c x1d _ l1e _ ⟨by omega, by omega⟩ ⟨by omega, by omega⟩ ⟨by omega, by omega⟩ HL1e.out).mono ?_
  rintro e u3 ⟨⟨v3a, v3b, v3c, rfl, hi, o3a, o3b, o3c⟩, hb⟩
  obtain ⟨D3, hD3⟩ : ∃ d, caR ⟨P1a, Q1a, G1a⟩ sCast x1b x1c x1d l1e = d := ⟨_, rfl⟩
  have HD3 := Lib.hid hD3
  rw [hD3] at hi o3a o3b o3c ⊢
  clear hD3
  have HI3 := Lib.hid hi
  clear hi
  have hs3a := o3a.ints
  clear o3a
  have HL3a := Lib.hid hs3a
  obtain ⟨a3a, n3a, c3a, rfl⟩ := hs3a.shape
  have HE3a := Lib.hid hs3a.len
  clear hs3a
  have hs3b := o3b.ints
  clear o3b
  have HL3b := Lib.hid hs3b
  obtain ⟨a3b, n3b, c3b, rfl⟩ := hs3b.shape
  have HE3b := Lib.hid hs3b.len
  clear hs3b
  have hs3c := o3c.ints
  clear o3c
  have HL3c := Lib.hid hs3c
  obtain ⟨a3c, n3c, c3c, rfl⟩ := hs3c.shape
  have HE3c := Lib.hid hs3c.len
  clear hs3c
  obtain ⟨q3, hq3⟩ : ∃ r, caB ⟨P1a, Q1a, G1a⟩ x1b x1c x1d l1e = r := ⟨_, rfl⟩
  have Hq3 := Lib.hid hq3
  rw [hq3]
  clear hq3
  replace HB := Lib.hid (Below.next HB.out hb)
  replace HZ1 := Lib.hid (HZ1.out.below hb)
  replace HL1e := Lib.hid (HL1e.out.below hb)
  clear hb
  have z_0_0 := HZ1.out.cell (i := 0) rfl
  have z_0_1 := HZ1.out.cell (i := 1) rfl
  have z_0_2 := HZ1.out.cell (i := 2) rfl
  have lt_HZ1 := HZ1.out.lt
  obtain ⟨V4, hV⟩ : ∃ V, V = u3.alloc (.cells #[.int .i64 D3.c.a, .int .i64 D3.c.b, .int .i64 D3.v.a, .int .i64 D3.v.b, .slice a3a n3a c3a, .slice a3b n3b c3b, .slice a3c n3c c3c] 104) := ⟨_, rfl⟩
  have hbV : Below u3.heap.size u3 V4 := by rw [hV]; (repeat (first | exact Below.refl _ _ | assumption | refine Below.drew ?_ | refine Below.alloc ?_ (by first | (simp; done) | (simp; omega)) _ | refine Below.setCell ?_ (by first | (simp; done) | (simp; omega)) _))
  have HZ2 : Hid (BoxN V4 u3.heap.size 104 [.int .i64 D3.c.a, .int .i64 D3.c.b, .int .i64 D3.v.a, .int .i64 D3.v.b, .slice a3a n3a c3a, .slice a3b n3b c3b, .slice a3c n3c c3c]) := by unfold Hid; rw [hV]; have h := (BoxN.new u3 [.int .i64 D3.c.a, .int .i64 D3.c.b, .int .i64 D3.v.a, .int .i64 D3.v.b, .slice a3a n3a c3a, .slice a3b n3b c3b, .slice a3c n3c c3c] 104); simpa using h
  try (go_wp2_with fail)
  rw [← hV]
  clear hV
  clear lt_HZ1
  clear z_0_0 z_0_1 z_0_2
  replace HB := Lib.hid (Below.next HB.out hbV)
  replace HZ1 := Lib.hid (HZ1.out.below hbV)
  replace HL1e := Lib.hid (HL1e.out.below hbV)
  replace HL3a := Lib.hid (HL3a.out.below hbV)
  replace HL3b := Lib.hid (HL3b.out.below hbV)
  replace HL3c := Lib.hid (HL3c.out.below hbV)
  clear hbV
  have z_0_0 := HZ1.out.cell (i := 0) rfl
  have z_0_1 := HZ1.out.cell (i := 1) rfl
  have z_0_2 := HZ1.out.cell (i := 2) rfl
  have z_1_0 := HZ2.out.cell (i := 0) rfl
  have z_1_1 := HZ2.out.cell (i := 1) rfl
  have z_1_2 := HZ2.out.cell (i := 2) rfl
  have z_1_3 := HZ2.out.cell (i := 3) rfl
  have z_1_4 := HZ2.out.cell (i := 4) rfl
  have z_1_5 := HZ2.out.cell (i := 5) rfl
  have z_1_6 := HZ2.out.cell (i := 6) rfl
  try (go_wp2_with fail)
  clear z_0_0 z_0_1 z_0_2 z_1_0 z_1_1 z_1_2 z_1_3 z_1_4 z_1_5 z_1_6
  refine (spec_CastVote ⟨P1a, Q1a, G1a⟩ x1b x1c x1d _ l1e _ ⟨by omega, by omega⟩ ⟨by omega, by omega⟩ ⟨by omega, by omega⟩ HL1e.out).mono ?_
  rintro e u5 ⟨⟨v5a, v5b, v5c, rfl, hi, o5a, o5b, o5c⟩, hb⟩
  rw [HD3.out] at hi o5a o5b o5c ⊢
  have HI5 := Lib.hid hi
  clear hi
  have hs5a := o5a.ints
  clear o5a
  have HL5a := Lib.hid hs5a
  obtain ⟨a5a, n5a, c5a, rfl⟩ := hs5a.shape
  have HE5a := Lib.hid hs5a.len
  clear hs5a
  have hs5b := o5b.ints
  clear o5b
  have HL5b := Lib.hid hs5b
  obtain ⟨a5b, n5b, c5b, rfl⟩ := hs5b.shape
  have HE5b := Lib.hid hs5b.len
  clear hs5b
  have hs5c := o5c.ints
  clear o5c
  have HL5c := Lib.hid hs5c
  obtain ⟨a5c, n5c, c5c, rfl⟩ := hs5c.shape
  have HE5c := Lib.hid hs5c.len
  clear hs5c
  rw [Hq3.out]
  replace HB := Lib.hid (Below.next HB.out hb)
  replace HZ1 := Lib.hid (HZ1.out.below hb)
  replace HZ2 := Lib.hid (HZ2.out.below hb)
  replace HL1e := Lib.hid (HL1e.out.below hb)
  replace HL3a := Lib.hid (HL3a.out.below hb)
  replace HL3b := Lib.hid (HL3b.out.below hb)
  replace HL3c := Lib.hid (HL3c.out.below hb)
  clear hb
  have z_0_0 := HZ1.out.cell (i := 0) rfl
  have z_0_1 := HZ1.out.cell (i := 1) rfl
  have z_0_2 := HZ1.out.cell (i := 2) rfl
  have z_1_0 := HZ2.out.cell (i := 0) rfl
  have z_1_1 := HZ2.out.cell (i := 1) rfl
  have z_1_2 := HZ2.out.cell (i := 2) rfl
  have z_1_3 := HZ2.out.cell (i := 3) rfl
  have z_1_4 := HZ2.out.cell (i := 4) rfl
  have z_1_5 := HZ2.out.cell (i := 5) rfl
  have z_1_6 := HZ2.out.cell (i := 6) rfl
  have lt_HZ1 := HZ1.out.lt
  have lt_HZ2 := HZ2.out.lt
  obtain ⟨V6, hV⟩ : ∃ V, V = u5.alloc (.cells #[.int .i64 D3.c.a, .int .i64 D3.c.b, .int .i64 D3.v.a, .int .i64 D3.v.b, .slice a5a n5a c5a, .slice a5b n5b c5b, .slice a5c n5c c5c] 104) := ⟨_, rfl⟩
  have hbV : Below u5.heap.size u5 V6 := by rw [hV]; (repeat (first | exact Below.refl _ _ | assumption | refine Below.drew ?_ | refine Below.alloc ?_ (by first | (simp; done) | (simp; omega)) _ | refine Below.setCell ?_ (by first | (simp; done) | (simp; omega)) _))
  have HZ3 : Hid (BoxN V6 u5.heap.size 104 [.int .i64 D3.c.a, .int .i64 D3.c.b, .int .i64 D3.v.a, .int .i64 D3.v.b, .slice a5a n5a c5a, .slice a5b n5b c5b, .slice a5c n5c c5c]) := by unfold Hid; rw [hV]; have h := (BoxN.new u5 [.int .i64 D3.c.a, .int .i64 D3.c.b, .int .i64 D3.v.a, .int .i64 D3.v.b, .slice a5a n5a c5a, .slice a5b n5b c5b, .slice a5c n5c c5c] 104); simpa using h
  try (go_wp2_with fail)
  rw [← hV]
  clear hV
  clear lt_HZ1
  clear lt_HZ2
  clear z_0_0 z_0_1 z_0_2 z_1_0 z_1_1 z_1_2 z_1_3 z_1_4 z_1_5 z_1_6
  replace HB := Lib.hid (Below.next HB.out hbV)
  replace HZ1 := Lib.hid (HZ1.out.below hbV)
  replace HZ2 := Lib.hid (HZ2.out.below hbV)
  replace HL1e := Lib.hid (HL1e.out.below hbV)
  replace HL3a := Lib.hid (HL3a.out.below hbV)
  replace HL3b := Lib.hid (HL3b.out.below hbV)
  replace HL3c := Lib.hid (HL3c.out.below hbV)
  replace HL5a := Lib.hid (HL5a.out.below hbV)
  replace HL5b := Lib.hid (HL5b.out.below hbV)
  replace HL5c := Lib.hid (HL5c.out.below hbV)
  clear hbV
  have z_0_0 := HZ1.out.cell (i := 0) rfl
  have z_0_1 := HZ1.out.cell (i := 1) rfl
  have z_0_2 := HZ1.out.cell (i := 2) rfl
  have z_1_0 := HZ2.out.cell (i := 0) rfl
  have z_1_1 := HZ2.out.cell (i := 1) rfl
  have z_1_2 := HZ2.out.cell (i := 2) rfl
  have z_1_3 := HZ2.out.cell (i := 3) rfl
  have z_1_4 := HZ2.out.cell (i := 4) rfl
  have z_1_5 := HZ2.out.cell (i := 5) rfl
  have z_1_6 := HZ2.out.cell (i := 6) rfl
  have z_2_0 := HZ3.out.cell (i := 0) rfl
  have z_2_1 := HZ3.out.cell (i := 1) rfl
  have z_2_2 := HZ3.out.cell (i := 2) rfl
  have z_2_3 := HZ3.out.cell (i := 3) rfl
  have z_2_4 := HZ3.out.cell (i := 4) rfl
  have z_2_5 := HZ3.out.cell (i := 5) rfl
  have z_2_6 := HZ3.out.cell (i := 6) rfl
  try (go_wp2_with fail)
  clear z_0_0 z_0_1 z_0_2 z_1_0 z_1_1 z_1_2 z_1_3 z_1_4 z_1_5 z_1_6 z_2_0 z_2_1 z_2_2 z_2_3 z_2_4 z_2_5 z_2_6
  refine (spec_DrawVerifyCast _ _ (H2.out.below HB.out)).mono ?_
  rintro e u7 ⟨⟨P7a, Q7a, G7a, x7b1, x7b2, x7b3, x7b4, v7ba, v7bb, v7bc, l7ba, l7bb, l7bc, rfl, hgr7a, ⟨⟨x7b1l, x7b1u⟩, ⟨x7b2l, x7b2u⟩⟩, ⟨⟨x7b3l, x7b3u⟩, ⟨x7b4l, x7b4u⟩⟩, ⟨hs7ba, hl7ba⟩, ⟨hs7bb, hl7bb⟩, ⟨hs7bc, hl7bc⟩⟩, hb⟩
  clear hgr7a
  have HL7ba := Lib.hid hs7ba
  obtain ⟨a7ba, n7ba, c7ba, rfl⟩ := hs7ba.shape
  have HE7ba := Lib.hid hs7ba.len
  clear hs7ba
  have HL7bb := Lib.hid hs7bb
  obtain ⟨a7bb, n7bb, c7bb, rfl⟩ := hs7bb.shape
  have HE7bb := Lib.hid hs7bb.len
  clear hs7bb
  have HL7bc := Lib.hid hs7bc
  obtain ⟨a7bc, n7bc, c7bc, rfl⟩ := hs7bc.shape
  have HE7bc := Lib.hid hs7bc.len
  clear hs7bc
  replace HB := Lib.hid (Below.next HB.out hb)
  replace HZ1 := Lib.hid (HZ1.out.below hb)
  replace HZ2 := Lib.hid (HZ2.out.below hb)
  replace HZ3 := Lib.hid (HZ3.out.below hb)
  replace HL1e := Lib.hid (HL1e.out.below hb)
  replace HL3a := Lib.hid (HL3a.out.below hb)
  replace HL3b := Lib.hid (HL3b.out.below hb)
  replace HL3c := Lib.hid (HL3c.out.below hb)
  replace HL5a := Lib.hid (HL5a.out.below hb)
  replace HL5b := Lib.hid (HL5b.out.below hb)
  replace HL5c := Lib.hid (HL5c.out.below hb)
  clear hb
  have z_0_0 := HZ1.out.cell (i := 0) rfl
  have z_0_1 := HZ1.out.cell (i := 1) rfl
  have z_0_2 := HZ1.out.cell (i := 2) rfl
  have z_1_0 := HZ2.out.cell (i := 0) rfl
  have z_1_1 := HZ2.out.cell (i := 1) rfl
  have z_1_2 := HZ2.out.cell (i := 2) rfl
  have z_1_3 := HZ2.out.cell (i := 3) rfl
  have z_1_4 := HZ2.out.cell (i := 4) rfl
  have z_1_5 := HZ2.out.cell (i := 5) rfl
  have z_1_6 := HZ2.out.cell (i := 6) rfl
  have z_2_0 := HZ3.out.cell (i := 0) rfl
  have z_2_1 := HZ3.out.cell (i := 1) rfl
  have z_2_2 := HZ3.out.cell (i := 2) rfl
  have z_2_3 := HZ3.out.cell (i := 3) rfl
  have z_2_4 := HZ3.out.cell (i := 4) rfl
  have z_2_5 := HZ3.out.cell (i := 5) rfl
  have z_2_6 := HZ3.out.cell (i := 6) rfl
  have lt_HZ1 := HZ1.out.lt
  have lt_HZ2 := HZ2.out.lt
  have lt_HZ3 := HZ3.out.lt
  obtain ⟨V8, hV⟩ : ∃ V, V = (u7.alloc (.cells #[.int .i64 P7a, .int .i64 Q7a, .int .i64 G7a] 39)).alloc (.cells #[.int .i64 x7b1, .int .i64 x7b2, .int .i64 x7b3, .int .i64 x7b4, .slice a7ba n7ba c7ba, .slice a7bb n7bb c7bb, .slice a7bc n7bc c7bc] 104) := ⟨_, rfl⟩
  have hbV : Below u7.heap.size u7 V8 := by rw [hV]; (repeat (first | exact Below.refl _ _ | assumption | refine Below.drew ?_ | refine Below.alloc ?_ (by first | (simp; done) | (simp; omega)) _ | refine Below.setCell ?_ (by first | (simp; done) | (simp; omega)) _))
  have HZ4 : Hid (BoxN V8 u7.heap.size 39 [.int .i64 P7a, .int .i64 Q7a, .int .i64 G7a]) := by unfold Hid; rw [hV]; have h := ((BoxN.new u7 [.int .i64 P7a, .int .i64 Q7a, .int .i64 G7a] 39).alloc (.cells #[.int .i64 x7b1, .int .i64 x7b2, .int .i64 x7b3, .int .i64 x7b4, .slice a7ba n7ba c7ba, .slice a7bb n7bb c7bb, .slice a7bc n7bc c7bc] 104)); simpa using h
  have HZ5 : Hid (BoxN V8 (u7.heap.size + 1) 104 [.int .i64 x7b1, .int .i64 x7b2, .int .i64 x7b3, .int .i64 x7b4, .slice a7ba n7ba c7ba, .slice a7bb n7bb c7bb, .slice a7bc n7bc c7bc]) := by unfold Hid; rw [hV]; have h := (BoxN.new (u7.alloc (.cells #[.int .i64 P7a, .int .i64 Q7a, .int .i64 G7a] 39)) [.int .i64 x7b1, .int .i64 x7b2, .int .i64 x7b3, .int .i64 x7b4, .slice a7ba n7ba c7ba, .slice a7bb n7bb c7bb, .slice a7bc n7bc c7bc] 104); simpa using h
  try (go_wp2_with fail)
  rw [← hV]
  clear hV
  clear lt_HZ1
  clear lt_HZ2
  clear lt_HZ3
  clear z_0_0 z_0_1 z_0_2 z_1_0 z_1_1 z_1_2 z_1_3 z_1_4 z_1_5 z_1_6 z_2_0 z_2_1 z_2_2 z_2_3 z_2_4 z_2_5 z_2_6
  replace HB := Lib.hid (Below.next HB.out hbV)
  replace HZ1 := Lib.hid (HZ1.out.below hbV)
  replace HZ2 := Lib.hid (HZ2.out.below hbV)
  replace HZ3 := Lib.hid (HZ3.out.below hbV)
  replace HL1e := Lib.hid (HL1e.out.below hbV)
  replace HL3a := Lib.hid (HL3a.out.below hbV)
  replace HL3b := Lib.hid (HL3b.out.below hbV)
  replace HL3c := Lib.hid (HL3c.out.below hbV)
  replace HL5a := Lib.hid (HL5a.out.below hbV)
  replace HL5b := Lib.hid (HL5b.out.below hbV)
  replace HL5c := Lib.hid (HL5c.out.below hbV)
  replace HL7ba := Lib.hid (HL7ba.out.below hbV)
  replace HL7bb := Lib.hid (HL7bb.out.below hbV)
  replace HL7bc := Lib.hid (HL7bc.out.below hbV)
  clear hbV
  have z_0_0 := HZ1.out.cell (i := 0) rfl
  have z_0_1 := HZ1.out.cell (i := 1) rfl
  have z_0_2 := HZ1.out.cell (i := 2) rfl
  have z_1_0 := HZ2.out.cell (i := 0) rfl
  have z_1_1 := HZ2.out.cell (i := 1) rfl
  have z_1_2 := HZ2.out.cell (i := 2) rfl
  have z_1_3 := HZ2.out.cell (i := 3) rfl
  have z_1_4 := HZ2.out.cell (i := 4) rfl
  have z_1_5 := HZ2.out.cell (i := 5) rfl
  have z_1_6 := HZ2.out.cell (i := 6) rfl
  have z_2_0 := HZ3.out.cell (i := 0) rfl
  have z_2_1 := HZ3.out.cell (i := 1) rfl
  have z_2_2 := HZ3.out.cell (i := 2) rfl
  have z_2_3 := HZ3.out.cell (i := 3) rfl
  have z_2_4 := HZ3.out.cell (i := 4) rfl
  have z_2_5 := HZ3.out.cell (i := 5) rfl
  have z_2_6 := HZ3.out.cell (i := 6) rfl
  have z_3_0 := HZ4.out.cell (i := 0) rfl
  have z_3_1 := HZ4.out.cell (i := 1) rfl
  have z_3_2 := HZ4.out.cell (i := 2) rfl
  have z_4_0 := HZ5.out.cell (i := 0) rfl
  have z_4_1 := HZ5.out.cell (i := 1) rfl
  have z_4_2 := HZ5.out.cell (i := 2) rfl
  have z_4_3 := HZ5.out.cell (i := 3) rfl
  have z_4_4 := HZ5.out.cell (i := 4) rfl
  have z_4_5 := HZ5.out.cell (i := 5) rfl
  have z_4_6 := HZ5.out.cell (i := 6) rfl
  try (go_wp2_with fail)
  clear z_0_0 z_0_1 z_0_2 z_1_0 z_1_1 z_1_2 z_1_3 z_1_4 z_1_5 z_1_6 z_2_0 z_2_1 z_2_2 z_2_3 z_2_4 z_2_5 z_2_6 z_3_0 z_3_1 z_3_2 z_4_0 z_4_1 z_4_2 z_4_3 z_4_4 z_4_5 z_4_6
  refine (impl_VerifyCast ⟨P7a, Q7a, G7a⟩ _ ⟨⟨x7b1, x7b2⟩, ⟨x7b3, x7b4⟩, ⟨l7ba, l7bb, l7bc⟩⟩ _ (CaR.mk (x := ⟨⟨x7b1, x7b2⟩, ⟨x7b3, x7b4⟩, ⟨l7ba, l7bb, l7bc⟩⟩) ⟨⟨(⟨by omega, by omega⟩ : I64 x7b1), (⟨by omega, by omega⟩ : I64 x7b2)⟩, ⟨(⟨by omega, by omega⟩ : I64 x7b3), (⟨by omega, by omega⟩ : I64 x7b4)⟩⟩ HL7ba.out HL7bb.out HL7bc.out)).mono ?_
  rintro e u9 ⟨rfl, hb⟩
  obtain ⟨q9a, hq9a⟩ : ∃ r, vcastR ⟨P7a, Q7a, G7a⟩ sCast ⟨⟨x7b1, x7b2⟩, ⟨x7b3, x7b4⟩, ⟨l7ba, l7bb, l7bc⟩⟩ = r := ⟨_, rfl⟩
  have Hq9a := Lib.hid hq9a
  rw [hq9a]
  clear hq9a
  obtain ⟨q9b, hq9b⟩ : ∃ r, vcastA ⟨P7a, Q7a, G7a⟩ ⟨⟨x7b1, x7b2⟩, ⟨x7b3, x7b4⟩, ⟨l7ba, l7bb, l7bc⟩⟩ = r := ⟨_, rfl⟩
  have Hq9b := Lib.hid hq9b
  rw [hq9b]
  clear hq9b
  replace HB := Lib.hid (Below.next HB.out hb)
  replace HZ1 := Lib.hid (HZ1.out.below hb)
  replace HZ2 := Lib.hid (HZ2.out.below hb)
  replace HZ3 := Lib.hid (HZ3.out.below hb)
  replace HZ4 := Lib.hid (HZ4.out.below hb)
  replace HZ5 := Lib.hid (HZ5.out.below hb)
  replace HL1e := Lib.hid (HL1e.out.below hb)
  replace HL3a := Lib.hid (HL3a.out.below hb)
  replace HL3b := Lib.hid (HL3b.out.below hb)
  replace HL3c := Lib.hid (HL3c.out.below hb)
  replace HL5a := Lib.hid (HL5a.out.below hb)
  replace HL5b := Lib.hid (HL5b.out.below hb)
  replace HL5c := Lib.hid (HL5c.out.below hb)
  replace HL7ba := Lib.hid (HL7ba.out.below hb)
  replace HL7bb := Lib.hid (HL7bb.out.below hb)
  replace HL7bc := Lib.hid (HL7bc.out.below hb)
  clear hb
  have z_0_0 := HZ1.out.cell (i := 0) rfl
  have z_0_1 := HZ1.out.cell (i := 1) rfl
  have z_0_2 := HZ1.out.cell (i := 2) rfl
  have z_1_0 := HZ2.out.cell (i := 0) rfl
  have z_1_1 := HZ2.out.cell (i := 1) rfl
  have z_1_2 := HZ2.out.cell (i := 2) rfl
  have z_1_3 := HZ2.out.cell (i := 3) rfl
  have z_1_4 := HZ2.out.cell (i := 4) rfl
  have z_1_5 := HZ2.out.cell (i := 5) rfl
  have z_1_6 := HZ2.out.cell (i := 6) rfl
  have z_2_0 := HZ3.out.cell (i := 0) rfl
  have z_2_1 := HZ3.out.cell (i := 1) rfl
  have z_2_2 := HZ3.out.cell (i := 2) rfl
  have z_2_3 := HZ3.out.cell (i := 3) rfl
  have z_2_4 := HZ3.out.cell (i := 4) rfl
  have z_2_5 := HZ3.out.cell (i := 5) rfl
  have z_2_6 := HZ3.out.cell (i := 6) rfl
  have z_3_0 := HZ4.out.cell (i := 0) rfl
  have z_3_1 := HZ4.out.cell (i := 1) rfl
  have z_3_2 := HZ4.out.cell (i := 2) rfl
  have z_4_0 := HZ5.out.cell (i := 0) rfl
  have z_4_1 := HZ5.out.cell (i := 1) rfl
  have z_4_2 := HZ5.out.cell (i := 2) rfl
  have z_4_3 := HZ5.out.cell (i := 3) rfl
  have z_4_4 := HZ5.out.cell (i := 4) rfl
  have z_4_5 := HZ5.out.cell (i := 5) rfl
  have z_4_6 := HZ5.out.cell (i := 6) rfl
  try (go_wp2_with fail)
  clear z_0_0 z_0_1 z_0_2 z_1_0 z_1_1 z_1_2 z_1_3 z_1_4 z_1_5 z_1_6 z_2_0 z_2_1 z_2_2 z_2_3 z_2_4 z_2_5 z_2_6 z_3_0 z_3_1 z_3_2 z_4_0 z_4_1 z_4_2 z_4_3 z_4_4 z_4_5 z_4_6
  refine (spec_VerifyCast ⟨P7a, Q7a, G7a⟩ _ ⟨⟨x7b1, x7b2⟩, ⟨x7b3, x7b4⟩, ⟨l7ba, l7bb, l7bc⟩⟩ _ (CaR.mk (x := ⟨⟨x7b1, x7b2⟩, ⟨x7b3, x7b4⟩, ⟨l7ba, l7bb, l7bc⟩⟩) ⟨⟨(⟨by omega, by omega⟩ : I64 x7b1), (⟨by omega, by omega⟩ : I64 x7b2)⟩, ⟨(⟨by omega, by omega⟩ : I64 x7b3), (⟨by omega, by omega⟩ : I64 x7b4)⟩⟩ HL7ba.out HL7bb.out HL7bc.out)).mono ?_
  rintro e u10 ⟨rfl, hb⟩
  rw [Hq9a.out]
  rw [Hq9b.out]
  replace HB := Lib.hid (Below.next HB.out hb)
  replace HZ1 := Lib.hid (HZ1.out.below hb)
  replace HZ2 := Lib.hid (HZ2.out.below hb)
  replace HZ3 := Lib.hid (HZ3.out.below hb)
  replace HZ4 := Lib.hid (HZ4.out.below hb)
  replace HZ5 := Lib.hid (HZ5.out.below hb)
  replace HL1e := Lib.hid (HL1e.out.below hb)
  replace HL3a := Lib.hid (HL3a.out.below hb)
  replace HL3b := Lib.hid (HL3b.out.below hb)
  replace HL3c := Lib.hid (HL3c.out.below hb)
  replace HL5a := Lib.hid (HL5a.out.below hb)
  replace HL5b := Lib.hid (HL5b.out.below hb)
  replace HL5c := Lib.hid (HL5c.out.below hb)
  replace HL7ba := Lib.hid (HL7ba.out.below hb)
  replace HL7bb := Lib.hid (HL7bb.out.below hb)
  replace HL7bc := Lib.hid (HL7bc.out.below hb)
  clear hb
  have eq_q3 : (q3 == q3) = true := by simp
  have eq_D3_c_a : (D3.c.a == D3.c.a) = true := by simp
  have eq_D3_c_b : (D3.c.b == D3.c.b) = true := by simp
  have eq_D3_v_a : (D3.v.a == D3.v.a) = true := by simp
  have eq_D3_v_b : (D3.v.b == D3.v.b) = true := by simp
  have z_0_0 := HZ1.out.cell (i := 0) rfl
  have z_0_1 := HZ1.out.cell (i := 1) rfl
  have z_0_2 := HZ1.out.cell (i := 2) rfl
  have z_1_0 := HZ2.out.cell (i := 0) rfl
  have z_1_1 := HZ2.out.cell (i := 1) rfl
  have z_1_2 := HZ2.out.cell (i := 2) rfl
  have z_1_3 := HZ2.out.cell (i := 3) rfl
  have z_1_4 := HZ2.out.cell (i := 4) rfl
  have z_1_5 := HZ2.out.cell (i := 5) rfl
  have z_1_6 := HZ2.out.cell (i := 6) rfl
  have z_2_0 := HZ3.out.cell (i := 0) rfl
  have z_2_1 := HZ3.out.cell (i := 1) rfl
  have z_2_2 := HZ3.out.cell (i := 2) rfl
  have z_2_3 := HZ3.out.cell (i := 3) rfl
  have z_2_4 := HZ3.out.cell (i := 4) rfl
  have z_2_5 := HZ3.out.cell (i := 5) rfl
  have z_2_6 := HZ3.out.cell (i := 6) rfl
  have z_3_0 := HZ4.out.cell (i := 0) rfl
  have z_3_1 := HZ4.out.cell (i := 1) rfl
  have z_3_2 := HZ4.out.cell (i := 2) rfl
  have z_4_0 := HZ5.out.cell (i := 0) rfl
  have z_4_1 := HZ5.out.cell (i := 1) rfl
  have z_4_2 := HZ5.out.cell (i := 2) rfl
  have z_4_3 := HZ5.out.cell (i := 3) rfl
  have z_4_4 := HZ5.out.cell (i := 4) rfl
  have z_4_5 := HZ5.out.cell (i := 5) rfl
  have z_4_6 := HZ5.out.cell (i := 6) rfl
  try (go_wp2_with fail)
  clear z_0_0 z_0_1 z_0_2 z_1_0 z_1_1 z_1_2 z_1_3 z_1_4 z_1_5 z_1_6 z_2_0 z_2_1 z_2_2 z_2_3 z_2_4 z_2_5 z_2_6 z_3_0 z_3_1 z_3_2 z_4_0 z_4_1 z_4_2 z_4_3 z_4_4 z_4_5 z_4_6
  refine (laws_qProof _ _ D3.p _ (PfR.mk HL3a.out HL3b.out HL3c.out) (PfR.mk HL5a.out HL5b.out HL5c.out)).mono ?_
  rintro e u11 ⟨rfl, hb⟩
  replace HB := Lib.hid (Below.next HB.out hb)
  replace HZ1 := Lib.hid (HZ1.out.below hb)
  replace HZ2 := Lib.hid (HZ2.out.below hb)
  replace HZ3 := Lib.hid (HZ3.out.below hb)
  replace HZ4 := Lib.hid (HZ4.out.below hb)
  replace HZ5 := Lib.hid (HZ5.out.below hb)
  replace HL1e := Lib.hid (HL1e.out.below hb)
  replace HL3a := Lib.hid (HL3a.out.below hb)
  replace HL3b := Lib.hid (HL3b.out.below hb)
  replace HL3c := Lib.hid (HL3c.out.below hb)
  replace HL5a := Lib.hid (HL5a.out.below hb)
  replace HL5b := Lib.hid (HL5b.out.below hb)
  replace HL5c := Lib.hid (HL5c.out.below hb)
  replace HL7ba := Lib.hid (HL7ba.out.below hb)
  replace HL7bb := Lib.hid (HL7bb.out.below hb)
  replace HL7bc := Lib.hid (HL7bc.out.below hb)
  clear hb
  have eq_q9b : (q9b == q9b) = true := by simp
  have eq_q9a : (q9a == q9a) = true := by simp
  cases q3 with
  | false =>
    have z_0_0 := HZ1.out.cell (i := 0) rfl
    have z_0_1 := HZ1.out.cell (i := 1) rfl
    have z_0_2 := HZ1.out.cell (i := 2) rfl
    have z_1_0 := HZ2.out.cell (i := 0) rfl
    have z_1_1 := HZ2.out.cell (i := 1) rfl
    have z_1_2 := HZ2.out.cell (i := 2) rfl
    have z_1_3 := HZ2.out.cell (i := 3) rfl
    have z_1_4 := HZ2.out.cell (i := 4) rfl
    have z_1_5 := HZ2.out.cell (i := 5) rfl
    have z_1_6 := HZ2.out.cell (i := 6) rfl
    have z_2_0 := HZ3.out.cell (i := 0) rfl
    have z_2_1 := HZ3.out.cell (i := 1) rfl
    have z_2_2 := HZ3.out.cell (i := 2) rfl
    have z_2_3 := HZ3.out.cell (i := 3) rfl
    have z_2_4 := HZ3.out.cell (i := 4) rfl
    have z_2_5 := HZ3.out.cell (i := 5) rfl
    have z_2_6 := HZ3.out.cell (i := 6) rfl
    have z_3_0 := HZ4.out.cell (i := 0) rfl
    have z_3_1 := HZ4.out.cell (i := 1) rfl
    have z_3_2 := HZ4.out.cell (i := 2) rfl
    have z_4_0 := HZ5.out.cell (i := 0) rfl
    have z_4_1 := HZ5.out.cell (i := 1) rfl
    have z_4_2 := HZ5.out.cell (i := 2) rfl
    have z_4_3 := HZ5.out.cell (i := 3) rfl
    have z_4_4 := HZ5.out.cell (i := 4) rfl
    have z_4_5 := HZ5.out.cell (i := 5) rfl
    have z_4_6 := HZ5.out.cell (i := 6) rfl
    try (go_wp2_with fail)
    clear z_0_0 z_0_1 z_0_2 z_1_0 z_1_1 z_1_2 z_1_3 z_1_4 z_1_5 z_1_6 z_2_0 z_2_1 z_2_2 z_2_3 z_2_4 z_2_5 z_2_6 z_3_0 z_3_1 z_3_2 z_4_0 z_4_1 z_4_2 z_4_3 z_4_4 z_4_5 z_4_6
    go_ret
    exact ⟨rfl, HB.out⟩
  | true =>
    have HCT := Lib.hid (cast_tail (s := sCast) Hq3.out)
    have HT : Hid (vcastR ⟨P1a, Q1a, G1a⟩ sCast D3 = true ∧ vcastA ⟨P1a, Q1a, G1a⟩ D3 = true) := by unfold Hid; rw [← HD3.out]; exact ⟨HCT.out.2.1, HCT.out.1⟩
    have z_0_0 := HZ1.out.cell (i := 0) rfl
    have z_0_1 := HZ1.out.cell (i := 1) rfl
    have z_0_2 := HZ1.out.cell (i := 2) rfl
    have z_1_0 := HZ2.out.cell (i := 0) rfl
    have z_1_1 := HZ2.out.cell (i := 1) rfl
    have z_1_2 := HZ2.out.cell (i := 2) rfl
    have z_1_3 := HZ2.out.cell (i := 3) rfl
    have z_1_4 := HZ2.out.cell (i := 4) rfl
    have z_1_5 := HZ2.out.cell (i := 5) rfl
    have z_1_6 := HZ2.out.cell (i := 6) rfl
    have z_2_0 := HZ3.out.cell (i := 0) rfl
    have z_2_1 := HZ3.out.cell (i := 1) rfl
    have z_2_2 := HZ3.out.cell (i := 2) rfl
    have z_2_3 := HZ3.out.cell (i := 3) rfl
    have z_2_4 := HZ3.out.cell (i := 4) rfl
    have z_2_5 := HZ3.out.cell (i := 5) rfl
    have z_2_6 := HZ3.out.cell (i := 6) rfl
    have z_3_0 := HZ4.out.cell (i := 0) rfl
    have z_3_1 := HZ4.out.cell (i := 1) rfl
    have z_3_2 := HZ4.out.cell (i := 2) rfl
    have z_4_0 := HZ5.out.cell (i := 0) rfl
    have z_4_1 := HZ5.out.cell (i := 1) rfl
    have z_4_2 := HZ5.out.cell (i := 2) rfl
    have z_4_3 := HZ5.out.cell (i := 3) rfl
    have z_4_4 := HZ5.out.cell (i := 4) rfl
    have z_4_5 := HZ5.out.cell (i := 5) rfl
    have z_4_6 := HZ5.out.cell (i := 6) rfl
    try (go_wp2_with fail)
    clear z_0_0 z_0_1 z_0_2 z_1_0 z_1_1 z_1_2 z_1_3 z_1_4 z_1_5 z_1_6 z_2_0 z_2_1 z_2_2 z_2_3 z_2_4 z_2_5 z_2_6 z_3_0 z_3_1 z_3_2 z_4_0 z_4_1 z_4_2 z_4_3 z_4_4 z_4_5 z_4_6
    refine (impl_VerifyCast ⟨P1a, Q1a, G1a⟩ _ D3 _ (CaR.mk (x := D3) HI3.out HL3a.out HL3b.out HL3c.out)).mono ?_
    rintro e u12 ⟨rfl, hb⟩
    rw [HT.out.1, HT.out.2]
    replace HB := Lib.hid (Below.next HB.out hb)
    replace HZ1 := Lib.hid (HZ1.out.below hb)
    replace HZ2 := Lib.hid (HZ2.out.below hb)
    replace HZ3 := Lib.hid (HZ3.out.below hb)
    replace HZ4 := Lib.hid (HZ4.out.below hb)
    replace HZ5 := Lib.hid (HZ5.out.below hb)
    replace HL1e := Lib.hid (HL1e.out.below hb)
    replace HL3a := Lib.hid (HL3a.out.below hb)
    replace HL3b := Lib.hid (HL3b.out.below hb)
    replace HL3c := Lib.hid (HL3c.out.below hb)
    replace HL5a := Lib.hid (HL5a.out.below hb)
    replace HL5b := Lib.hid (HL5b.out.below hb)
    replace HL5c := Lib.hid (HL5c.out.below hb)
    replace HL7ba := Lib.hid (HL7ba.out.below hb)
    replace HL7bb := Lib.hid (HL7bb.out.below hb)
    replace HL7bc := Lib.hid (HL7bc.out.below hb)
    clear hb
    have z_0_0 := HZ1.out.cell (i := 0) rfl
    have z_0_1 := HZ1.out.cell (i := 1) rfl
    have z_0_2 := HZ1.out.cell (i := 2) rfl
    have z_1_0 := HZ2.out.cell (i := 0) rfl
    have z_1_1 := HZ2.out.cell (i := 1) rfl
    have z_1_2 := HZ2.out.cell (i := 2) rfl
    have z_1_3 := HZ2.out.cell (i := 3) rfl
    have z_1_4 := HZ2.out.cell (i := 4) rfl
    have z_1_5 := HZ2.out.cell (i := 5) rfl
    have z_1_6 := HZ2.out.cell (i := 6) rfl
    have z_2_0 := HZ3.out.cell (i := 0) rfl
    have z_2_1 := HZ3.out.cell (i := 1) rfl
    have z_2_2 := HZ3.out.cell (i := 2) rfl
    have z_2_3 := HZ3.out.cell (i := 3) rfl
    have z_2_4 := HZ3.out.cell (i := 4) rfl
    have z_2_5 := HZ3.out.cell (i := 5) rfl
    have z_2_6 := HZ3.out.cell (i := 6) rfl
    have z_3_0 := HZ4.out.cell (i := 0) rfl
    have z_3_1 := HZ4.out.cell (i := 1) rfl
    have z_3_2 := HZ4.out.cell (i := 2) rfl
    have z_4_0 := HZ5.out.cell (i := 0) rfl
    have z_4_1 := HZ5.out.cell (i := 1) rfl
    have z_4_2 := HZ5.out.cell (i := 2) rfl
    have z_4_3 := HZ5.out.cell (i := 3) rfl
    have z_4_4 := HZ5.out.cell (i := 4) rfl
    have z_4_5 := HZ5.out.cell (i := 5) rfl
    have z_4_6 := HZ5.out.cell (i := 6) rfl
    try (go_wp2_with fail)
    clear z_0_0 z_0_1 z_0_2 z_1_0 z_1_1 z_1_2 z_1_3 z_1_4 z_1_5 z_1_6 z_2_0 z_2_1 z_2_2 z_2_3 z_2_4 z_2_5 z_2_6 z_3_0 z_3_1 z_3_2 z_4_0 z_4_1 z_4_2 z_4_3 z_4_4 z_4_5 z_4_6
    refine (impl_FakeCredential ⟨P1a, Q1a, G1a⟩ x1c 1 _ ⟨by omega, by omega⟩ ⟨by decide, by decide⟩).mono ?_
    rintro e u13 ⟨rfl, hb⟩
    obtain ⟨FK, hFK⟩ : ∃ r, fkR ⟨P1a, Q1a, G1a⟩ x1c 1 = r := ⟨_, rfl⟩
    have HFK := Lib.hid hFK
    have iFK : I64 FK := by rw [← hFK]; exact fkR_64 _ _ _
    rw [hFK]
    clear hFK
    obtain ⟨q13, hq13⟩ : ∃ r, fkB ⟨P1a, Q1a, G1a⟩ x1c 1 = r := ⟨_, rfl⟩
    have Hq13 := Lib.hid hq13
    rw [hq13]
    clear hq13
    replace HB := Lib.hid (Below.next HB.out hb)
    replace HZ1 := Lib.hid (HZ1.out.below hb)
    replace HZ2 := Lib.hid (HZ2.out.below hb)
    replace HZ3 := Lib.hid (HZ3.out.below hb)
    replace HZ4 := Lib.hid (HZ4.out.below hb)
    replace HZ5 := Lib.hid (HZ5.out.below hb)
    replace HL1e := Lib.hid (HL1e.out.below hb)
    replace HL3a := Lib.hid (HL3a.out.below hb)
    replace HL3b := Lib.hid (HL3b.out.below hb)
    replace HL3c := Lib.hid (HL3c.out.below hb)
    replace HL5a := Lib.hid (HL5a.out.below hb)
    replace HL5b := Lib.hid (HL5b.out.below hb)
    replace HL5c := Lib.hid (HL5c.out.below hb)
    replace HL7ba := Lib.hid (HL7ba.out.below hb)
    replace HL7bb := Lib.hid (HL7bb.out.below hb)
    replace HL7bc := Lib.hid (HL7bc.out.below hb)
    clear hb
    cases q13 with
    | false =>
      have z_0_0 := HZ1.out.cell (i := 0) rfl
      have z_0_1 := HZ1.out.cell (i := 1) rfl
      have z_0_2 := HZ1.out.cell (i := 2) rfl
      have z_1_0 := HZ2.out.cell (i := 0) rfl
      have z_1_1 := HZ2.out.cell (i := 1) rfl
      have z_1_2 := HZ2.out.cell (i := 2) rfl
      have z_1_3 := HZ2.out.cell (i := 3) rfl
      have z_1_4 := HZ2.out.cell (i := 4) rfl
      have z_1_5 := HZ2.out.cell (i := 5) rfl
      have z_1_6 := HZ2.out.cell (i := 6) rfl
      have z_2_0 := HZ3.out.cell (i := 0) rfl
      have z_2_1 := HZ3.out.cell (i := 1) rfl
      have z_2_2 := HZ3.out.cell (i := 2) rfl
      have z_2_3 := HZ3.out.cell (i := 3) rfl
      have z_2_4 := HZ3.out.cell (i := 4) rfl
      have z_2_5 := HZ3.out.cell (i := 5) rfl
      have z_2_6 := HZ3.out.cell (i := 6) rfl
      have z_3_0 := HZ4.out.cell (i := 0) rfl
      have z_3_1 := HZ4.out.cell (i := 1) rfl
      have z_3_2 := HZ4.out.cell (i := 2) rfl
      have z_4_0 := HZ5.out.cell (i := 0) rfl
      have z_4_1 := HZ5.out.cell (i := 1) rfl
      have z_4_2 := HZ5.out.cell (i := 2) rfl
      have z_4_3 := HZ5.out.cell (i := 3) rfl
      have z_4_4 := HZ5.out.cell (i := 4) rfl
      have z_4_5 := HZ5.out.cell (i := 5) rfl
      have z_4_6 := HZ5.out.cell (i := 6) rfl
      try (go_wp2_with fail)
      clear z_0_0 z_0_1 z_0_2 z_1_0 z_1_1 z_1_2 z_1_3 z_1_4 z_1_5 z_1_6 z_2_0 z_2_1 z_2_2 z_2_3 z_2_4 z_2_5 z_2_6 z_3_0 z_3_1 z_3_2 z_4_0 z_4_1 z_4_2 z_4_3 z_4_4 z_4_5 z_4_6
      go_ret
      exact ⟨rfl, HB.out⟩
    | true =>
      have HFT := Lib.hid (HCT.out.2.2 Hq13.out)
      rw [HFK.out] at HFT
      have HFC := Lib.hid (cast_tail (s := sCast) HFT.out.1)
      have z_0_0 := HZ1.out.cell (i := 0) rfl
      have z_0_1 := HZ1.out.cell (i := 1) rfl
      have z_0_2 := HZ1.out.cell (i := 2) rfl
      have z_1_0 := HZ2.out.cell (i := 0) rfl
      have z_1_1 := HZ2.out.cell (i := 1) rfl
      have z_1_2 := HZ2.out.cell (i := 2) rfl
      have z_1_3 := HZ2.out.cell (i := 3) rfl
      have z_1_4 := HZ2.out.cell (i := 4) rfl
      have z_1_5 := HZ2.out.cell (i := 5) rfl
      have z_1_6 := HZ2.out.cell (i := 6) rfl
      have z_2_0 := HZ3.out.cell (i := 0) rfl
      have z_2_1 := HZ3.out.cell (i := 1) rfl
      have z_2_2 := HZ3.out.cell (i := 2) rfl
      have z_2_3 := HZ3.out.cell (i := 3) rfl
      have z_2_4 := HZ3.out.cell (i := 4) rfl
      have z_2_5 := HZ3.out.cell (i := 5) rfl
      have z_2_6 := HZ3.out.cell (i := 6) rfl
      have z_3_0 := HZ4.out.cell (i := 0) rfl
      have z_3_1 := HZ4.out.cell (i := 1) rfl
      have z_3_2 := HZ4.out.cell (i := 2) rfl
      have z_4_0 := HZ5.out.cell (i := 0) rfl
      have z_4_1 := HZ5.out.cell (i := 1) rfl
      have z_4_2 := HZ5.out.cell (i := 2) rfl
      have z_4_3 := HZ5.out.cell (i := 3) rfl
      have z_4_4 := HZ5.out.cell (i := 4) rfl
      have z_4_5 := HZ5.out.cell (i := 5) rfl
      have z_4_6 := HZ5.out.cell (i := 6) rfl
      try (go_wp2_with fail)
      clear z_0_0 z_0_1 z_0_2 z_1_0 z_1_1 z_1_2 z_1_3 z_1_4 z_1_5 z_1_6 z_2_0 z_2_1 z_2_2 z_2_3 z_2_4 z_2_5 z_2_6 z_3_0 z_3_1 z_3_2 z_4_0 z_4_1 z_4_2 z_4_3 z_4_4 z_4_5 z_4_6
      refine (impl_CastVote ⟨P1a, Q1a, G1a⟩ x1b FK x1d _ l1e _ ⟨by omega, by omega⟩ iFK ⟨by omega, by omega⟩ HL1e.out).mono ?_
      rintro e u14 ⟨⟨v14a, v14b, v14c, rfl, hi, o14a, o14b, o14c⟩, hb⟩
      obtain ⟨D14, hD14⟩ : ∃ d, caR ⟨P1a, Q1a, G1a⟩ sCast x1b FK x1d l1e = d := ⟨_, rfl⟩
      have HD14 := Lib.hid hD14
      rw [hD14] at hi o14a o14b o14c ⊢
      clear hD14
      have HI14 := Lib.hid hi
      clear hi
      have HDV : Hid (D14.v = D3.v) := by unfold Hid; rw [← HD14.out, ← HD3.out]; exact HFT.out.2
      rw [HDV.out]
      have hs14a := o14a.ints
      clear o14a
      have HL14a := Lib.hid hs14a
      obtain ⟨a14a, n14a, c14a, rfl⟩ := hs14a.shape
      have HE14a := Lib.hid hs14a.len
      clear hs14a
      have hs14b := o14b.ints
      clear o14b
      have HL14b := Lib.hid hs14b
      obtain ⟨a14b, n14b, c14b, rfl⟩ := hs14b.shape
      have HE14b := Lib.hid hs14b.len
      clear hs14b
      have hs14c := o14c.ints
      clear o14c
      have HL14c := Lib.hid hs14c
      obtain ⟨a14c, n14c, c14c, rfl⟩ := hs14c.shape
      have HE14c := Lib.hid hs14c.len
      clear hs14c
      rw [HFT.out.1]
      replace HB := Lib.hid (Below.next HB.out hb)
      replace HZ1 := Lib.hid (HZ1.out.below hb)
      replace HZ2 := Lib.hid (HZ2.out.below hb)
      replace HZ3 := Lib.hid (HZ3.out.below hb)
      replace HZ4 := Lib.hid (HZ4.out.below hb)
      replace HZ5 := Lib.hid (HZ5.out.below hb)
      replace HL1e := Lib.hid (HL1e.out.below hb)
      replace HL3a := Lib.hid (HL3a.out.below hb)
      replace HL3b := Lib.hid (HL3b.out.below hb)
      replace HL3c := Lib.hid (HL3c.out.below hb)
      replace HL5a := Lib.hid (HL5a.out.below hb)
      replace HL5b := Lib.hid (HL5b.out.below hb)
      replace HL5c := Lib.hid (HL5c.out.below hb)
      replace HL7ba := Lib.hid (HL7ba.out.below hb)
      replace HL7bb := Lib.hid (HL7bb.out.below hb)
      replace HL7bc := Lib.hid (HL7bc.out.below hb)
      clear hb
      have z_0_0 := HZ1.out.cell (i := 0) rfl
      have z_0_1 := HZ1.out.cell (i := 1) rfl
      have z_0_2 := HZ1.out.cell (i := 2) rfl
      have z_1_0 := HZ2.out.cell (i := 0) rfl
      have z_1_1 := HZ2.out.cell (i := 1) rfl
      have z_1_2 := HZ2.out.cell (i := 2) rfl
      have z_1_3 := HZ2.out.cell (i := 3) rfl
      have z_1_4 := HZ2.out.cell (i := 4) rfl
      have z_1_5 := HZ2.out.cell (i := 5) rfl
      have z_1_6 := HZ2.out.cell (i := 6) rfl
      have z_2_0 := HZ3.out.cell (i := 0) rfl
      have z_2_1 := HZ3.out.cell (i := 1) rfl
      have z_2_2 := HZ3.out.cell (i := 2) rfl
      have z_2_3 := HZ3.out.cell (i := 3) rfl
      have z_2_4 := HZ3.out.cell (i := 4) rfl
      have z_2_5 := HZ3.out.cell (i := 5) rfl
      have z_2_6 := HZ3.out.cell (i := 6) rfl
      have z_3_0 := HZ4.out.cell (i := 0) rfl
      have z_3_1 := HZ4.out.cell (i := 1) rfl
      have z_3_2 := HZ4.out.cell (i := 2) rfl
      have z_4_0 := HZ5.out.cell (i := 0) rfl
      have z_4_1 := HZ5.out.cell (i := 1) rfl
      have z_4_2 := HZ5.out.cell (i := 2) rfl
      have z_4_3 := HZ5.out.cell (i := 3) rfl
      have z_4_4 := HZ5.out.cell (i := 4) rfl
      have z_4_5 := HZ5.out.cell (i := 5) rfl
      have z_4_6 := HZ5.out.cell (i := 6) rfl
      have lt_HZ1 := HZ1.out.lt
      have lt_HZ2 := HZ2.out.lt
      have lt_HZ3 := HZ3.out.lt
      have lt_HZ4 := HZ4.out.lt
      have lt_HZ5 := HZ5.out.lt
      obtain ⟨V15, hV⟩ : ∃ V, V = u14.alloc (.cells #[.int .i64 D14.c.a, .int .i64 D14.c.b, .int .i64 D3.v.a, .int .i64 D3.v.b, .slice a14a n14a c14a, .slice a14b n14b c14b, .slice a14c n14c c14c] 104) := ⟨_, rfl⟩
      have hbV : Below u14.heap.size u14 V15 := by rw [hV]; (repeat (first | exact Below.refl _ _ | assumption | refine Below.drew ?_ | refine Below.alloc ?_ (by first | (simp; done) | (simp; omega)) _ | refine Below.setCell ?_ (by first | (simp; done) | (simp; omega)) _))
      have HZ6 : Hid (BoxN V15 u14.heap.size 104 [.int .i64 D14.c.a, .int .i64 D14.c.b, .int .i64 D3.v.a, .int .i64 D3.v.b, .slice a14a n14a c14a, .slice a14b n14b c14b, .slice a14c n14c c14c]) := by unfold Hid; rw [hV]; have h := (BoxN.new u14 [.int .i64 D14.c.a, .int .i64 D14.c.b, .int .i64 D3.v.a, .int .i64 D3.v.b, .slice a14a n14a c14a, .slice a14b n14b c14b, .slice a14c n14c c14c] 104); simpa using h
      try (go_wp2_with fail)
      rw [← hV]
      clear hV
      clear lt_HZ1
      clear lt_HZ2
      clear lt_HZ3
      clear lt_HZ4
      clear lt_HZ5
      clear z_0_0 z_0_1 z_0_2 z_1_0 z_1_1 z_1_2 z_1_3 z_1_4 z_1_5 z_1_6 z_2_0 z_2_1 z_2_2 z_2_3 z_2_4 z_2_5 z_2_6 z_3_0 z_3_1 z_3_2 z_4_0 z_4_1 z_4_2 z_4_3 z_4_4 z_4_5 z_4_6
      replace HB := Lib.hid (Below.next HB.out hbV)
      replace HZ1 := Lib.hid (HZ1.out.below hbV)
      replace HZ2 := Lib.hid (HZ2.out.below hbV)
      replace HZ3 := Lib.hid (HZ3.out.below hbV)
      replace HZ4 := Lib.hid (HZ4.out.below hbV)
      replace HZ5 := Lib.hid (HZ5.out.below hbV)
      replace HL1e := Lib.hid (HL1e.out.below hbV)
      replace HL3a := Lib.hid (HL3a.out.below hbV)
      replace HL3b := Lib.hid (HL3b.out.below hbV)
      replace HL3c := Lib.hid (HL3c.out.below hbV)
      replace HL5a := Lib.hid (HL5a.out.below hbV)
      replace HL5b := Lib.hid (HL5b.out.below hbV)
      replace HL5c := Lib.hid (HL5c.out.below hbV)
      replace HL7ba := Lib.hid (HL7ba.out.below hbV)
      replace HL7bb := Lib.hid (HL7bb.out.below hbV)
      replace HL7bc := Lib.hid (HL7bc.out.below hbV)
      replace HL14a := Lib.hid (HL14a.out.below hbV)
      replace HL14b := Lib.hid (HL14b.out.below hbV)
      replace HL14c := Lib.hid (HL14c.out.below hbV)
      clear hbV
      have z_0_0 := HZ1.out.cell (i := 0) rfl
      have z_0_1 := HZ1.out.cell (i := 1) rfl
      have z_0_2 := HZ1.out.cell (i := 2) rfl
      have z_1_0 := HZ2.out.cell (i := 0) rfl
      have z_1_1 := HZ2.out.cell (i := 1) rfl
      have z_1_2 := HZ2.out.cell (i := 2) rfl
      have z_1_3 := HZ2.out.cell (i := 3) rfl
      have z_1_4 := HZ2.out.cell (i := 4) rfl
      have z_1_5 := HZ2.out.cell (i := 5) rfl
      have z_1_6 := HZ2.out.cell (i := 6) rfl
      have z_2_0 := HZ3.out.cell (i := 0) rfl
      have z_2_1 := HZ3.out.cell (i := 1) rfl
      have z_2_2 := HZ3.out.cell (i := 2) rfl
      have z_2_3 := HZ3.out.cell (i := 3) rfl
      have z_2_4 := HZ3.out.cell (i := 4) rfl
      have z_2_5 := HZ3.out.cell (i := 5) rfl
      have z_2_6 := HZ3.out.cell (i := 6) rfl
      have z_3_0 := HZ4.out.cell (i := 0) rfl
      have z_3_1 := HZ4.out.cell (i := 1) rfl
      have z_3_2 := HZ4.out.cell (i := 2) rfl
      have z_4_0 := HZ5.out.cell (i := 0) rfl
      have z_4_1 := HZ5.out.cell (i := 1) rfl
      have z_4_2 := HZ5.out.cell (i := 2) rfl
      have z_4_3 := HZ5.out.cell (i := 3) rfl
      have z_4_4 := HZ5.out.cell (i := 4) rfl
      have z_4_5 := HZ5.out.cell (i := 5) rfl
      have z_4_6 := HZ5.out.cell (i := 6) rfl
      have z_5_0 := HZ6.out.cell (i := 0) rfl
      have z_5_1 := HZ6.out.cell (i := 1) rfl
      have z_5_2 := HZ6.out.cell (i := 2) rfl
      have z_5_3 := HZ6.out.cell (i := 3) rfl
      have z_5_4 := HZ6.out.cell (i := 4) rfl
      have z_5_5 := HZ6.out.cell (i := 5) rfl
      have z_5_6 := HZ6.out.cell (i := 6) rfl
      try (go_wp2_with fail)
      clear z_0_0 z_0_1 z_0_2 z_1_0 z_1_1 z_1_2 z_1_3 z_1_4 z_1_5 z_1_6 z_2_0 z_2_1 z_2_2 z_2_3 z_2_4 z_2_5 z_2_6 z_3_0 z_3_1 z_3_2 z_4_0 z_4_1 z_4_2 z_4_3 z_4_4 z_4_5 z_4_6 z_5_0 z_5_1 z_5_2 z_5_3 z_5_4 z_5_5 z_5_6
      refine (impl_VerifyCast ⟨P1a, Q1a, G1a⟩ _ D14 _ (by have q := CaR.mk (x := D14) (by have h := HI14.out; exact h) HL14a.out HL14b.out HL14c.out; rw [HDV.out] at q; exact q)).mono ?_
      rintro e u16 ⟨rfl, hb⟩
      have HU : Hid (vcastR ⟨P1a, Q1a, G1a⟩ sCast D14 = true ∧ vcastA ⟨P1a, Q1a, G1a⟩ D14 = true) := by unfold Hid; rw [← HD14.out]; exact ⟨HFC.out.2.1, HFC.out.1⟩
      rw [HU.out.1, HU.out.2]
      replace HB := Lib.hid (Below.next HB.out hb)
      replace HZ1 := Lib.hid (HZ1.out.below hb)
      replace HZ2 := Lib.hid (HZ2.out.below hb)
      replace HZ3 := Lib.hid (HZ3.out.below hb)
      replace HZ4 := Lib.hid (HZ4.out.below hb)
      replace HZ5 := Lib.hid (HZ5.out.below hb)
      replace HZ6 := Lib.hid (HZ6.out.below hb)
      replace HL1e := Lib.hid (HL1e.out.below hb)
      replace HL3a := Lib.hid (HL3a.out.below hb)
      replace HL3b := Lib.hid (HL3b.out.below hb)
      replace HL3c := Lib.hid (HL3c.out.below hb)
      replace HL5a := Lib.hid (HL5a.out.below hb)
      replace HL5b := Lib.hid (HL5b.out.below hb)
      replace HL5c := Lib.hid (HL5c.out.below hb)
      replace HL7ba := Lib.hid (HL7ba.out.below hb)
      replace HL7bb := Lib.hid (HL7bb.out.below hb)
      replace HL7bc := Lib.hid (HL7bc.out.below hb)
      replace HL14a := Lib.hid (HL14a.out.below hb)
      replace HL14b := Lib.hid (HL14b.out.below hb)
      replace HL14c := Lib.hid (HL14c.out.below hb)
      clear hb
      have z_0_0 := HZ1.out.cell (i := 0) rfl
      have z_0_1 := HZ1.out.cell (i := 1) rfl
      have z_0_2 := HZ1.out.cell (i := 2) rfl
      have z_1_0 := HZ2.out.cell (i := 0) rfl
      have z_1_1 := HZ2.out.cell (i := 1) rfl
      have z_1_2 := HZ2.out.cell (i := 2) rfl
      have z_1_3 := HZ2.out.cell (i := 3) rfl
      have z_1_4 := HZ2.out.cell (i := 4) rfl
      have z_1_5 := HZ2.out.cell (i := 5) rfl
      have z_1_6 := HZ2.out.cell (i := 6) rfl
      have z_2_0 := HZ3.out.cell (i := 0) rfl
      have z_2_1 := HZ3.out.cell (i := 1) rfl
      have z_2_2 := HZ3.out.cell (i := 2) rfl
      have z_2_3 := HZ3.out.cell (i := 3) rfl
      have z_2_4 := HZ3.out.cell (i := 4) rfl
      have z_2_5 := HZ3.out.cell (i := 5) rfl
      have z_2_6 := HZ3.out.cell (i := 6) rfl
      have z_3_0 := HZ4.out.cell (i := 0) rfl
      have z_3_1 := HZ4.out.cell (i := 1) rfl
      have z_3_2 := HZ4.out.cell (i := 2) rfl
      have z_4_0 := HZ5.out.cell (i := 0) rfl
      have z_4_1 := HZ5.out.cell (i := 1) rfl
      have z_4_2 := HZ5.out.cell (i := 2) rfl
      have z_4_3 := HZ5.out.cell (i := 3) rfl
      have z_4_4 := HZ5.out.cell (i := 4) rfl
      have z_4_5 := HZ5.out.cell (i := 5) rfl
      have z_4_6 := HZ5.out.cell (i := 6) rfl
      have z_5_0 := HZ6.out.cell (i := 0) rfl
      have z_5_1 := HZ6.out.cell (i := 1) rfl
      have z_5_2 := HZ6.out.cell (i := 2) rfl
      have z_5_3 := HZ6.out.cell (i := 3) rfl
      have z_5_4 := HZ6.out.cell (i := 4) rfl
      have z_5_5 := HZ6.out.cell (i := 5) rfl
      have z_5_6 := HZ6.out.cell (i := 6) rfl
      try (go_wp2_with fail)
      clear z_0_0 z_0_1 z_0_2 z_1_0 z_1_1 z_1_2 z_1_3 z_1_4 z_1_5 z_1_6 z_2_0 z_2_1 z_2_2 z_2_3 z_2_4 z_2_5 z_2_6 z_3_0 z_3_1 z_3_2 z_4_0 z_4_1 z_4_2 z_4_3 z_4_4 z_4_5 z_4_6 z_5_0 z_5_1 z_5_2 z_5_3 z_5_4 z_5_5 z_5_6
      go_ret
      exact ⟨rfl, HB.out⟩
end Go.Proofs.Ytboahnklilmdpaa
