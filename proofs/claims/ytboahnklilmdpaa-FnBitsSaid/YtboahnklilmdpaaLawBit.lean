/- The walk of FnBits (printed by gen_lawbit.py). -/
import Derived.Test.YtboahnklilmdpaaDrI2
import Derived.Test.YtboahnklilmdpaaBit4
import Derived.Test.YtboahnklilmdpaaEqI
import Derived.Deep.Cut
namespace Go.Proofs.Ytboahnklilmdpaa
open Go.RowKit
set_option linter.unusedSimpArgs false
set_option linter.unusedVariables false
def bigB (m m' : Nat) : Bool := decide ((1048576 : Int) < (m : Int)) || decide ((1048576 : Int) - (m : Int) < (m' : Int))
theorem laws_big (a a' : Option Addr) (m c m' c' : Nat) (w : World) (hm : (m : Int) ≤ 9223372036854775807) :
    Calls Try.prog 47 #[.slice a m c, .slice a' m' c'] w fun e w' => e = .returned (.bool (bigB m m')) ∧ w = w' := by
  have ew : IntKind.i64.wrap ((1048576 : Int) - (m : Int)) = (1048576 : Int) - (m : Int) := IntWalk.i64_in _ (by omega)
  by_cases h : (1048576 : Int) < (m : Int)
  · have HB : Hid (bigB m m' = true) := by unfold Hid bigB; rw [decide_eq_true h]; rfl
    rw [HB.out]
    have hd : decide ((1048576 : Int) < (m : Int)) = true := decide_eq_true h
    go_enter Try.func47, Try.ntmps47
    go_wp2_with fail
    go_ret
    exact ⟨rfl, rfl⟩
  · obtain ⟨q, hq⟩ : ∃ q, decide ((1048576 : Int) - (m : Int) < (m' : Int)) = q := ⟨_, rfl⟩
    have HB : Hid (bigB m m' = q) := by unfold Hid bigB; rw [decide_eq_false h, hq]; rfl
    rw [HB.out]
    have hd : decide ((1048576 : Int) < (m : Int)) = false := decide_eq_false h
    have HQ := Lib.hid hq
    clear hq
    go_enter Try.func47, Try.ntmps47
    go_wp2_with fail
    go_ret
    exact ⟨ret_bool HQ.out, rfl⟩
set_option maxRecDepth 100000 in
set_option maxHeartbeats 8000000 in
theorem law_Bits (va vb : Value) (w : World) (h1 : Bytes w va) (h2 : Bytes w vb) :
    Calls Try.prog 11 #[va, vb] w fun e w' => e = .returned (.bool true) ∧ Below w.heap.size w w' := by
  obtain ⟨a, m, c, rfl, k1, k2, hv⟩ := h1
  obtain ⟨a', m', c', rfl, k3, k4, hv'⟩ := h2
  have H1 : Hid (Bytes w (.slice a m c)) := ⟨a, m, c, rfl, k1, k2, hv⟩
  have H2 : Hid (Bytes w (.slice a' m' c')) := ⟨a', m', c', rfl, k3, k4, hv'⟩
  clear hv hv'
  unfold maxLen at k2 k4
  rcases (by cases bigB m m' <;> simp : bigB m m' = true ∨ bigB m m' = false) with hbig | hbig
  · go_enter Try.func11, Try.ntmps11
    go_wp2_with fail
    refine (laws_big _ _ _ _ _ _ _ (by omega)).mono ?_
    rintro e w1 ⟨rfl, rfl⟩
    rw [hbig]
    go_wp2_with fail
    go_ret
    exact ⟨rfl, Below.refl _ _⟩
  have HBG := Lib.hid hbig
  clear hbig
  have HB : Hid (Below w.heap.size w w) := Below.refl _ _
  go_enter Try.func11, Try.ntmps11
  go_wp2_with fail
  refine (laws_big _ _ _ _ _ _ _ (by omega)).mono ?_
  rintro e w1 ⟨rfl, rfl⟩
  rw [HBG.out]
  clear HBG
  go_wp2_with fail
  try (go_wp2_with fail)
  refine (spec_DrawProveBit _ _ (H1.out.below HB.out)).mono ?_
  rintro e u1 ⟨⟨P1a, Q1a, G1a, h1b, v1b, l1b, x1c, x1d, v1e, l1e, rfl, hgr1a, ⟨⟨h1bl, h1bu⟩, hs1b, hl1b⟩, ⟨x1cl, x1cu⟩, ⟨x1dl, x1du⟩, ⟨hs1e, hl1e⟩⟩, hb⟩
  clear hgr1a
  have HL1b := Lib.hid hs1b
  obtain ⟨a1b, n1b, c1b, rfl⟩ := hs1b.shape
  have HE1b := Lib.hid hs1b.len
  clear hs1b
  have HL1e := Lib.hid hs1e
  obtain ⟨a1e, n1e, c1e, rfl⟩ := hs1e.shape
  have HE1e := Lib.hid hs1e.len
  clear hs1e
  replace HB := Lib.hid (Below.next HB.out hb)
  clear hb
  obtain ⟨V2, hV⟩ : ∃ V, V = (u1.alloc (.cells #[.int .i64 P1a, .int .i64 Q1a, .int .i64 G1a] 39)).alloc (.cells #[.int .i64 h1b, .slice a1b n1b c1b] 79) := ⟨_, rfl⟩
  have hbV : Below u1.heap.size u1 V2 := by rw [hV]; (repeat (first | exact Below.refl _ _ | assumption | refine Below.drew ?_ | refine Below.alloc ?_ (by first | (simp; done) | (simp; omega)) _ | refine Below.setCell ?_ (by first | (simp; done) | (simp; omega)) _))
  have HZ1 : Hid (BoxN V2 u1.heap.size 39 [.int .i64 P1a, .int .i64 Q1a, .int .i64 G1a]) := by unfold Hid; rw [hV]; have h := ((BoxN.new u1 [.int .i64 P1a, .int .i64 Q1a, .int .i64 G1a] 39).alloc (.cells #[.int .i64 h1b, .slice a1b n1b c1b] 79)); simpa using h
  have HZ2 : Hid (BoxN V2 (u1.heap.size + 1) 79 [.int .i64 h1b, .slice a1b n1b c1b]) := by unfold Hid; rw [hV]; have h := (BoxN.new (u1.alloc (.cells #[.int .i64 P1a, .int .i64 Q1a, .int .i64 G1a] 39)) [.int .i64 h1b, .slice a1b n1b c1b] 79); simpa using h
  try (go_wp2_with fail)
  rw [← hV]
  clear hV
  replace HB := Lib.hid (Below.next HB.out hbV)
  replace HL1b := Lib.hid (HL1b.out.below hbV)
  replace HL1e := Lib.hid (HL1e.out.below hbV)
  clear hbV
  have z_0_0 := HZ1.out.cell (i := 0) rfl
  have z_0_1 := HZ1.out.cell (i := 1) rfl
  have z_0_2 := HZ1.out.cell (i := 2) rfl
  have z_1_0 := HZ2.out.cell (i := 0) rfl
  have z_1_1 := HZ2.out.cell (i := 1) rfl
  try (go_wp2_with fail)
  clear z_0_0 z_0_1 z_0_2 z_1_0 z_1_1
  refine (impl_ProveBit ⟨P1a, Q1a, G1a⟩ h1b _ l1b x1c x1d _ l1e _ HL1b.out ⟨by omega, by omega⟩ ⟨by omega, by omega⟩ ⟨by omega, by omega⟩ HL1e.out).mono ?_
  rintro e u3 ⟨⟨v3a, v3b, v3c, rfl, o3a, o3b, o3c⟩, hb⟩
  obtain ⟨D3, hD3⟩ : ∃ d, pbR ⟨P1a, Q1a, G1a⟩ sBit h1b l1b x1c x1d l1e = d := ⟨_, rfl⟩
  have HD3 := Lib.hid hD3
  rw [hD3] at o3a o3b o3c
  clear hD3
  have hs3a := o3a.ints
  clear o3a
  have HL3a := Lib.hid hs3a
  obtain ⟨a3a, n3a, c3a, rfl⟩ := hs3a.shape
  have HE3a := Lib.hid hs3a.len
  clear hs3a
  have hs3b := o3b.ints
  clear o3b
  have HL3b := Lib.hid hs3b
  obtain ⟨a3b, n3b, c3b, rfl⟩ := hs3b.shape
  have HE3b := Lib.hid hs3b.len
  clear hs3b
  have hs3c := o3c.ints
  clear o3c
  have HL3c := Lib.hid hs3c
  obtain ⟨a3c, n3c, c3c, rfl⟩ := hs3c.shape
  have HE3c := Lib.hid hs3c.len
  clear hs3c
  obtain ⟨q3, hq3⟩ : ∃ r, pbB ⟨P1a, Q1a, G1a⟩ h1b l1b x1c x1d l1e = r := ⟨_, rfl⟩
  have Hq3 := Lib.hid hq3
  rw [hq3]
  clear hq3
  replace HB := Lib.hid (Below.next HB.out hb)
  replace HZ1 := Lib.hid (HZ1.out.below hb)
  replace HZ2 := Lib.hid (HZ2.out.below hb)
  replace HL1b := Lib.hid (HL1b.out.below hb)
  replace HL1e := Lib.hid (HL1e.out.below hb)
  clear hb
  have z_0_0 := HZ1.out.cell (i := 0) rfl
  have z_0_1 := HZ1.out.cell (i := 1) rfl
  have z_0_2 := HZ1.out.cell (i := 2) rfl
  have z_1_0 := HZ2.out.cell (i := 0) rfl
  have z_1_1 := HZ2.out.cell (i := 1) rfl
  have lt_HZ1 := HZ1.out.lt
  have lt_HZ2 := HZ2.out.lt
  obtain ⟨V4, hV⟩ : ∃ V, V = u3.alloc (.cells #[.slice a3a n3a c3a, .slice a3b n3b c3b, .slice a3c n3c c3c] 42) := ⟨_, rfl⟩
  have hbV : Below u3.heap.size u3 V4 := by rw [hV]; (repeat (first | exact Below.refl _ _ | assumption | refine Below.drew ?_ | refine Below.alloc ?_ (by first | (simp; done) | (simp; omega)) _ | refine Below.setCell ?_ (by first | (simp; done) | (simp; omega)) _))
  have HZ3 : Hid (BoxN V4 u3.heap.size 42 [.slice a3a n3a c3a, .slice a3b n3b c3b, .slice a3c n3c c3c]) := by unfold Hid; rw [hV]; have h := (BoxN.new u3 [.slice a3a n3a c3a, .slice a3b n3b c3b, .slice a3c n3c c3c] 42); simpa using h
  try (go_wp2_with fail)
  rw [← hV]
  clear hV
  clear lt_HZ1
  clear lt_HZ2
  clear z_0_0 z_0_1 z_0_2 z_1_0 z_1_1
  replace HB := Lib.hid (Below.next HB.out hbV)
  replace HZ1 := Lib.hid (HZ1.out.below hbV)
  replace HZ2 := Lib.hid (HZ2.out.below hbV)
  replace HL1b := Lib.hid (HL1b.out.below hbV)
  replace HL1e := Lib.hid (HL1e.out.below hbV)
  replace HL3a := Lib.hid (HL3a.out.below hbV)
  replace HL3b := Lib.hid (HL3b.out.below hbV)
  replace HL3c := Lib.hid (HL3c.out.below hbV)
  clear hbV
  have z_0_0 := HZ1.out.cell (i := 0) rfl
  have z_0_1 := HZ1.out.cell (i := 1) rfl
  have z_0_2 := HZ1.out.cell (i := 2) rfl
  have z_1_0 := HZ2.out.cell (i := 0) rfl
  have z_1_1 := HZ2.out.cell (i := 1) rfl
  have z_2_0 := HZ3.out.cell (i := 0) rfl
  have z_2_1 := HZ3.out.cell (i := 1) rfl
  have z_2_2 := HZ3.out.cell (i := 2) rfl
  try (go_wp2_with fail)
  clear z_0_0 z_0_1 z_0_2 z_1_0 z_1_1 z_2_0 z_2_1 z_2_2
  refine (spec_ProveBit ⟨P1a, Q1a, G1a⟩ h1b _ l1b x1c x1d _ l1e _ HL1b.out ⟨by omega, by omega⟩ ⟨by omega, by omega⟩ ⟨by omega, by omega⟩ HL1e.out).mono ?_
  rintro e u5 ⟨⟨v5a, v5b, v5c, rfl, o5a, o5b, o5c⟩, hb⟩
  rw [HD3.out] at o5a o5b o5c
  have hs5a := o5a.ints
  clear o5a
  have HL5a := Lib.hid hs5a
  obtain ⟨a5a, n5a, c5a, rfl⟩ := hs5a.shape
  have HE5a := Lib.hid hs5a.len
  clear hs5a
  have hs5b := o5b.ints
  clear o5b
  have HL5b := Lib.hid hs5b
  obtain ⟨a5b, n5b, c5b, rfl⟩ := hs5b.shape
  have HE5b := Lib.hid hs5b.len
  clear hs5b
  have hs5c := o5c.ints
  clear o5c
  have HL5c := Lib.hid hs5c
  obtain ⟨a5c, n5c, c5c, rfl⟩ := hs5c.shape
  have HE5c := Lib.hid hs5c.len
  clear hs5c
  rw [Hq3.out]
  replace HB := Lib.hid (Below.next HB.out hb)
  replace HZ1 := Lib.hid (HZ1.out.below hb)
  replace HZ2 := Lib.hid (HZ2.out.below hb)
  replace HZ3 := Lib.hid (HZ3.out.below hb)
  replace HL1b := Lib.hid (HL1b.out.below hb)
  replace HL1e := Lib.hid (HL1e.out.below hb)
  replace HL3a := Lib.hid (HL3a.out.below hb)
  replace HL3b := Lib.hid (HL3b.out.below hb)
  replace HL3c := Lib.hid (HL3c.out.below hb)
  clear hb
  have eq_q3 : (q3 == q3) = true := by simp
  have z_0_0 := HZ1.out.cell (i := 0) rfl
  have z_0_1 := HZ1.out.cell (i := 1) rfl
  have z_0_2 := HZ1.out.cell (i := 2) rfl
  have z_1_0 := HZ2.out.cell (i := 0) rfl
  have z_1_1 := HZ2.out.cell (i := 1) rfl
  have z_2_0 := HZ3.out.cell (i := 0) rfl
  have z_2_1 := HZ3.out.cell (i := 1) rfl
  have z_2_2 := HZ3.out.cell (i := 2) rfl
  have lt_HZ1 := HZ1.out.lt
  have lt_HZ2 := HZ2.out.lt
  have lt_HZ3 := HZ3.out.lt
  obtain ⟨V6, hV⟩ : ∃ V, V = u5.alloc (.cells #[.slice a5a n5a c5a, .slice a5b n5b c5b, .slice a5c n5c c5c] 42) := ⟨_, rfl⟩
  have hbV : Below u5.heap.size u5 V6 := by rw [hV]; (repeat (first | exact Below.refl _ _ | assumption | refine Below.drew ?_ | refine Below.alloc ?_ (by first | (simp; done) | (simp; omega)) _ | refine Below.setCell ?_ (by first | (simp; done) | (simp; omega)) _))
  have HZ4 : Hid (BoxN V6 u5.heap.size 42 [.slice a5a n5a c5a, .slice a5b n5b c5b, .slice a5c n5c c5c]) := by unfold Hid; rw [hV]; have h := (BoxN.new u5 [.slice a5a n5a c5a, .slice a5b n5b c5b, .slice a5c n5c c5c] 42); simpa using h
  try (go_wp2_with fail)
  rw [← hV]
  clear hV
  clear lt_HZ1
  clear lt_HZ2
  clear lt_HZ3
  clear z_0_0 z_0_1 z_0_2 z_1_0 z_1_1 z_2_0 z_2_1 z_2_2
  replace HB := Lib.hid (Below.next HB.out hbV)
  replace HZ1 := Lib.hid (HZ1.out.below hbV)
  replace HZ2 := Lib.hid (HZ2.out.below hbV)
  replace HZ3 := Lib.hid (HZ3.out.below hbV)
  replace HL1b := Lib.hid (HL1b.out.below hbV)
  replace HL1e := Lib.hid (HL1e.out.below hbV)
  replace HL3a := Lib.hid (HL3a.out.below hbV)
  replace HL3b := Lib.hid (HL3b.out.below hbV)
  replace HL3c := Lib.hid (HL3c.out.below hbV)
  replace HL5a := Lib.hid (HL5a.out.below hbV)
  replace HL5b := Lib.hid (HL5b.out.below hbV)
  replace HL5c := Lib.hid (HL5c.out.below hbV)
  clear hbV
  have z_0_0 := HZ1.out.cell (i := 0) rfl
  have z_0_1 := HZ1.out.cell (i := 1) rfl
  have z_0_2 := HZ1.out.cell (i := 2) rfl
  have z_1_0 := HZ2.out.cell (i := 0) rfl
  have z_1_1 := HZ2.out.cell (i := 1) rfl
  have z_2_0 := HZ3.out.cell (i := 0) rfl
  have z_2_1 := HZ3.out.cell (i := 1) rfl
  have z_2_2 := HZ3.out.cell (i := 2) rfl
  have z_3_0 := HZ4.out.cell (i := 0) rfl
  have z_3_1 := HZ4.out.cell (i := 1) rfl
  have z_3_2 := HZ4.out.cell (i := 2) rfl
  try (go_wp2_with fail)
  clear z_0_0 z_0_1 z_0_2 z_1_0 z_1_1 z_2_0 z_2_1 z_2_2 z_3_0 z_3_1 z_3_2
  refine (laws_pSameProof _ _ D3 _ (PfR.mk HL3a.out HL3b.out HL3c.out) (PfR.mk HL5a.out HL5b.out HL5c.out)).mono ?_
  rintro e u7 ⟨rfl, hb⟩
  replace HB := Lib.hid (Below.next HB.out hb)
  replace HZ1 := Lib.hid (HZ1.out.below hb)
  replace HZ2 := Lib.hid (HZ2.out.below hb)
  replace HZ3 := Lib.hid (HZ3.out.below hb)
  replace HZ4 := Lib.hid (HZ4.out.below hb)
  replace HL1b := Lib.hid (HL1b.out.below hb)
  replace HL1e := Lib.hid (HL1e.out.below hb)
  replace HL3a := Lib.hid (HL3a.out.below hb)
  replace HL3b := Lib.hid (HL3b.out.below hb)
  replace HL3c := Lib.hid (HL3c.out.below hb)
  replace HL5a := Lib.hid (HL5a.out.below hb)
  replace HL5b := Lib.hid (HL5b.out.below hb)
  replace HL5c := Lib.hid (HL5c.out.below hb)
  clear hb
  have z_0_0 := HZ1.out.cell (i := 0) rfl
  have z_0_1 := HZ1.out.cell (i := 1) rfl
  have z_0_2 := HZ1.out.cell (i := 2) rfl
  have z_1_0 := HZ2.out.cell (i := 0) rfl
  have z_1_1 := HZ2.out.cell (i := 1) rfl
  have z_2_0 := HZ3.out.cell (i := 0) rfl
  have z_2_1 := HZ3.out.cell (i := 1) rfl
  have z_2_2 := HZ3.out.cell (i := 2) rfl
  have z_3_0 := HZ4.out.cell (i := 0) rfl
  have z_3_1 := HZ4.out.cell (i := 1) rfl
  have z_3_2 := HZ4.out.cell (i := 2) rfl
  go_upto_if 64 with fail
  clear z_0_0 z_0_1 z_0_2 z_1_0 z_1_1 z_2_0 z_2_1 z_2_2 z_3_0 z_3_1 z_3_2
  go_cut [] from 26 (fun wx => Hid (Below u7.heap.size u7 wx))
  case first =>
    have HCB : Hid (Below u7.heap.size u7 u7) := Below.refl _ _
    cases q3 with
    | false =>
      have z_0_0 := HZ1.out.cell (i := 0) rfl
      have z_0_1 := HZ1.out.cell (i := 1) rfl
      have z_0_2 := HZ1.out.cell (i := 2) rfl
      have z_1_0 := HZ2.out.cell (i := 0) rfl
      have z_1_1 := HZ2.out.cell (i := 1) rfl
      have z_2_0 := HZ3.out.cell (i := 0) rfl
      have z_2_1 := HZ3.out.cell (i := 1) rfl
      have z_2_2 := HZ3.out.cell (i := 2) rfl
      have z_3_0 := HZ4.out.cell (i := 0) rfl
      have z_3_1 := HZ4.out.cell (i := 1) rfl
      have z_3_2 := HZ4.out.cell (i := 2) rfl
      try (go_wp2_with fail)
      clear z_0_0 z_0_1 z_0_2 z_1_0 z_1_1 z_2_0 z_2_1 z_2_2 z_3_0 z_3_1 z_3_2
      go_meet
      exact HCB
    | true =>
      have HT := Lib.hid (bit_tail (s := sBit) Hq3.out)
      have z_0_0 := HZ1.out.cell (i := 0) rfl
      have z_0_1 := HZ1.out.cell (i := 1) rfl
      have z_0_2 := HZ1.out.cell (i := 2) rfl
      have z_1_0 := HZ2.out.cell (i := 0) rfl
      have z_1_1 := HZ2.out.cell (i := 1) rfl
      have z_2_0 := HZ3.out.cell (i := 0) rfl
      have z_2_1 := HZ3.out.cell (i := 1) rfl
      have z_2_2 := HZ3.out.cell (i := 2) rfl
      have z_3_0 := HZ4.out.cell (i := 0) rfl
      have z_3_1 := HZ4.out.cell (i := 1) rfl
      have z_3_2 := HZ4.out.cell (i := 2) rfl
      try (go_wp2_with fail)
      clear z_0_0 z_0_1 z_0_2 z_1_0 z_1_1 z_2_0 z_2_1 z_2_2 z_3_0 z_3_1 z_3_2
      refine (spec_Commit ⟨P1a, Q1a, G1a⟩ h1b _ l1b x1c x1d _ HL1b.out ⟨by omega, by omega⟩ ⟨by omega, by omega⟩ ⟨by omega, by omega⟩).mono ?_
      rintro e u8 ⟨rfl, hb⟩
      rw [HT.out.1]
      obtain ⟨C0, hC0⟩ : ∃ c, cmR ⟨P1a, Q1a, G1a⟩ h1b l1b x1c x1d = c := ⟨_, rfl⟩
      have HC0 := Lib.hid hC0
      have iC0 : I64 C0 := by rw [← hC0]; have h := @cmR_bd ⟨P1a, Q1a, G1a⟩ h1b l1b x1c x1d; exact ⟨by omega, by omega⟩
      rw [hC0]
      have HT2 : Hid (vbR ⟨P1a, Q1a, G1a⟩ sBit h1b l1b C0 D3 = true ∧ voA ⟨P1a, Q1a, G1a⟩ h1b l1b C0 = true) := by unfold Hid; rw [← HC0.out, ← HD3.out]; exact ⟨HT.out.2.2, HT.out.2.1⟩
      clear hC0
      replace HB := Lib.hid (Below.next HB.out hb)
      replace HCB := Lib.hid (Below.next HCB.out hb)
      replace HZ1 := Lib.hid (HZ1.out.below hb)
      replace HZ2 := Lib.hid (HZ2.out.below hb)
      replace HZ3 := Lib.hid (HZ3.out.below hb)
      replace HZ4 := Lib.hid (HZ4.out.below hb)
      replace HL1b := Lib.hid (HL1b.out.below hb)
      replace HL1e := Lib.hid (HL1e.out.below hb)
      replace HL3a := Lib.hid (HL3a.out.below hb)
      replace HL3b := Lib.hid (HL3b.out.below hb)
      replace HL3c := Lib.hid (HL3c.out.below hb)
      replace HL5a := Lib.hid (HL5a.out.below hb)
      replace HL5b := Lib.hid (HL5b.out.below hb)
      replace HL5c := Lib.hid (HL5c.out.below hb)
      clear hb
      have z_0_0 := HZ1.out.cell (i := 0) rfl
      have z_0_1 := HZ1.out.cell (i := 1) rfl
      have z_0_2 := HZ1.out.cell (i := 2) rfl
      have z_1_0 := HZ2.out.cell (i := 0) rfl
      have z_1_1 := HZ2.out.cell (i := 1) rfl
      have z_2_0 := HZ3.out.cell (i := 0) rfl
      have z_2_1 := HZ3.out.cell (i := 1) rfl
      have z_2_2 := HZ3.out.cell (i := 2) rfl
      have z_3_0 := HZ4.out.cell (i := 0) rfl
      have z_3_1 := HZ4.out.cell (i := 1) rfl
      have z_3_2 := HZ4.out.cell (i := 2) rfl
      try (go_wp2_with fail)
      clear z_0_0 z_0_1 z_0_2 z_1_0 z_1_1 z_2_0 z_2_1 z_2_2 z_3_0 z_3_1 z_3_2
      refine (impl_VerifyBit ⟨P1a, Q1a, G1a⟩ h1b _ l1b C0 _ D3 _ HL1b.out ⟨by omega, by omega⟩ iC0 (PfR.mk HL3a.out HL3b.out HL3c.out)).mono ?_
      rintro e u9 ⟨rfl, hb⟩
      rw [HT2.out.1, HT2.out.2]
      replace HB := Lib.hid (Below.next HB.out hb)
      replace HCB := Lib.hid (Below.next HCB.out hb)
      replace HZ1 := Lib.hid (HZ1.out.below hb)
      replace HZ2 := Lib.hid (HZ2.out.below hb)
      replace HZ3 := Lib.hid (HZ3.out.below hb)
      replace HZ4 := Lib.hid (HZ4.out.below hb)
      replace HL1b := Lib.hid (HL1b.out.below hb)
      replace HL1e := Lib.hid (HL1e.out.below hb)
      replace HL3a := Lib.hid (HL3a.out.below hb)
      replace HL3b := Lib.hid (HL3b.out.below hb)
      replace HL3c := Lib.hid (HL3c.out.below hb)
      replace HL5a := Lib.hid (HL5a.out.below hb)
      replace HL5b := Lib.hid (HL5b.out.below hb)
      replace HL5c := Lib.hid (HL5c.out.below hb)
      clear hb
      have z_0_0 := HZ1.out.cell (i := 0) rfl
      have z_0_1 := HZ1.out.cell (i := 1) rfl
      have z_0_2 := HZ1.out.cell (i := 2) rfl
      have z_1_0 := HZ2.out.cell (i := 0) rfl
      have z_1_1 := HZ2.out.cell (i := 1) rfl
      have z_2_0 := HZ3.out.cell (i := 0) rfl
      have z_2_1 := HZ3.out.cell (i := 1) rfl
      have z_2_2 := HZ3.out.cell (i := 2) rfl
      have z_3_0 := HZ4.out.cell (i := 0) rfl
      have z_3_1 := HZ4.out.cell (i := 1) rfl
      have z_3_2 := HZ4.out.cell (i := 2) rfl
      try (go_wp2_with fail)
      clear z_0_0 z_0_1 z_0_2 z_1_0 z_1_1 z_2_0 z_2_1 z_2_2 z_3_0 z_3_1 z_3_2
      go_meet
      exact HCB
  case rest =>
    have hct := hcut.out
    clear hcut
    replace HB := Lib.hid (Below.next HB.out hct)
    replace HZ1 := Lib.hid (HZ1.out.below hct)
    replace HZ2 := Lib.hid (HZ2.out.below hct)
    replace HZ3 := Lib.hid (HZ3.out.below hct)
    replace HZ4 := Lib.hid (HZ4.out.below hct)
    replace HL1b := Lib.hid (HL1b.out.below hct)
    replace HL1e := Lib.hid (HL1e.out.below hct)
    replace HL3a := Lib.hid (HL3a.out.below hct)
    replace HL3b := Lib.hid (HL3b.out.below hct)
    replace HL3c := Lib.hid (HL3c.out.below hct)
    replace HL5a := Lib.hid (HL5a.out.below hct)
    replace HL5b := Lib.hid (HL5b.out.below hct)
    replace HL5c := Lib.hid (HL5c.out.below hct)
    clear hct
    have z_0_0 := HZ1.out.cell (i := 0) rfl
    have z_0_1 := HZ1.out.cell (i := 1) rfl
    have z_0_2 := HZ1.out.cell (i := 2) rfl
    have z_1_0 := HZ2.out.cell (i := 0) rfl
    have z_1_1 := HZ2.out.cell (i := 1) rfl
    have z_2_0 := HZ3.out.cell (i := 0) rfl
    have z_2_1 := HZ3.out.cell (i := 1) rfl
    have z_2_2 := HZ3.out.cell (i := 2) rfl
    have z_3_0 := HZ4.out.cell (i := 0) rfl
    have z_3_1 := HZ4.out.cell (i := 1) rfl
    have z_3_2 := HZ4.out.cell (i := 2) rfl
    try (go_wp2_with fail)
    clear z_0_0 z_0_1 z_0_2 z_1_0 z_1_1 z_2_0 z_2_1 z_2_2 z_3_0 z_3_1 z_3_2
    refine (spec_DrawVerifyBit _ _ (H2.out.below HB.out)).mono ?_
    rintro e u8 ⟨⟨P8a, Q8a, G8a, h8b, v8b, l8b, x8c, v8da, v8db, v8dc, l8da, l8db, l8dc, rfl, hgr8a, ⟨⟨h8bl, h8bu⟩, hs8b, hl8b⟩, ⟨x8cl, x8cu⟩, ⟨hs8da, hl8da⟩, ⟨hs8db, hl8db⟩, ⟨hs8dc, hl8dc⟩⟩, hb⟩
    clear hgr8a
    have HL8b := Lib.hid hs8b
    obtain ⟨a8b, n8b, c8b, rfl⟩ := hs8b.shape
    have HE8b := Lib.hid hs8b.len
    clear hs8b
    have HL8da := Lib.hid hs8da
    obtain ⟨a8da, n8da, c8da, rfl⟩ := hs8da.shape
    have HE8da := Lib.hid hs8da.len
    clear hs8da
    have HL8db := Lib.hid hs8db
    obtain ⟨a8db, n8db, c8db, rfl⟩ := hs8db.shape
    have HE8db := Lib.hid hs8db.len
    clear hs8db
    have HL8dc := Lib.hid hs8dc
    obtain ⟨a8dc, n8dc, c8dc, rfl⟩ := hs8dc.shape
    have HE8dc := Lib.hid hs8dc.len
    clear hs8dc
    replace HB := Lib.hid (Below.next HB.out hb)
    replace HZ1 := Lib.hid (HZ1.out.below hb)
    replace HZ2 := Lib.hid (HZ2.out.below hb)
    replace HZ3 := Lib.hid (HZ3.out.below hb)
    replace HZ4 := Lib.hid (HZ4.out.below hb)
    replace HL1b := Lib.hid (HL1b.out.below hb)
    replace HL1e := Lib.hid (HL1e.out.below hb)
    replace HL3a := Lib.hid (HL3a.out.below hb)
    replace HL3b := Lib.hid (HL3b.out.below hb)
    replace HL3c := Lib.hid (HL3c.out.below hb)
    replace HL5a := Lib.hid (HL5a.out.below hb)
    replace HL5b := Lib.hid (HL5b.out.below hb)
    replace HL5c := Lib.hid (HL5c.out.below hb)
    clear hb
    have z_0_0 := HZ1.out.cell (i := 0) rfl
    have z_0_1 := HZ1.out.cell (i := 1) rfl
    have z_0_2 := HZ1.out.cell (i := 2) rfl
    have z_1_0 := HZ2.out.cell (i := 0) rfl
    have z_1_1 := HZ2.out.cell (i := 1) rfl
    have z_2_0 := HZ3.out.cell (i := 0) rfl
    have z_2_1 := HZ3.out.cell (i := 1) rfl
    have z_2_2 := HZ3.out.cell (i := 2) rfl
    have z_3_0 := HZ4.out.cell (i := 0) rfl
    have z_3_1 := HZ4.out.cell (i := 1) rfl
    have z_3_2 := HZ4.out.cell (i := 2) rfl
    have lt_HZ1 := HZ1.out.lt
    have lt_HZ2 := HZ2.out.lt
    have lt_HZ3 := HZ3.out.lt
    have lt_HZ4 := HZ4.out.lt
    obtain ⟨V9, hV⟩ : ∃ V, V = ((u8.alloc (.cells #[.int .i64 P8a, .int .i64 Q8a, .int .i64 G8a] 39)).alloc (.cells #[.int .i64 h8b, .slice a8b n8b c8b] 79)).alloc (.cells #[.slice a8da n8da c8da, .slice a8db n8db c8db, .slice a8dc n8dc c8dc] 42) := ⟨_, rfl⟩
    have hbV : Below u8.heap.size u8 V9 := by rw [hV]; (repeat (first | exact Below.refl _ _ | assumption | refine Below.drew ?_ | refine Below.alloc ?_ (by first | (simp; done) | (simp; omega)) _ | refine Below.setCell ?_ (by first | (simp; done) | (simp; omega)) _))
    have HZ5 : Hid (BoxN V9 u8.heap.size 39 [.int .i64 P8a, .int .i64 Q8a, .int .i64 G8a]) := by unfold Hid; rw [hV]; have h := (((BoxN.new u8 [.int .i64 P8a, .int .i64 Q8a, .int .i64 G8a] 39).alloc (.cells #[.int .i64 h8b, .slice a8b n8b c8b] 79)).alloc (.cells #[.slice a8da n8da c8da, .slice a8db n8db c8db, .slice a8dc n8dc c8dc] 42)); simpa using h
    have HZ6 : Hid (BoxN V9 (u8.heap.size + 1) 79 [.int .i64 h8b, .slice a8b n8b c8b]) := by unfold Hid; rw [hV]; have h := ((BoxN.new (u8.alloc (.cells #[.int .i64 P8a, .int .i64 Q8a, .int .i64 G8a] 39)) [.int .i64 h8b, .slice a8b n8b c8b] 79).alloc (.cells #[.slice a8da n8da c8da, .slice a8db n8db c8db, .slice a8dc n8dc c8dc] 42)); simpa using h
    have HZ7 : Hid (BoxN V9 (u8.heap.size + 1 + 1) 42 [.slice a8da n8da c8da, .slice a8db n8db c8db, .slice a8dc n8dc c8dc]) := by unfold Hid; rw [hV]; have h := (BoxN.new ((u8.alloc (.cells #[.int .i64 P8a, .int .i64 Q8a, .int .i64 G8a] 39)).alloc (.cells #[.int .i64 h8b, .slice a8b n8b c8b] 79)) [.slice a8da n8da c8da, .slice a8db n8db c8db, .slice a8dc n8dc c8dc] 42); simpa using h
    try (go_wp2_with fail)
    rw [← hV]
    clear hV
    clear lt_HZ1
    clear lt_HZ2
    clear lt_HZ3
    clear lt_HZ4
    clear z_0_0 z_0_1 z_0_2 z_1_0 z_1_1 z_2_0 z_2_1 z_2_2 z_3_0 z_3_1 z_3_2
    replace HB := Lib.hid (Below.next HB.out hbV)
    replace HZ1 := Lib.hid (HZ1.out.below hbV)
    replace HZ2 := Lib.hid (HZ2.out.below hbV)
    replace HZ3 := Lib.hid (HZ3.out.below hbV)
    replace HZ4 := Lib.hid (HZ4.out.below hbV)
    replace HL1b := Lib.hid (HL1b.out.below hbV)
    replace HL1e := Lib.hid (HL1e.out.below hbV)
    replace HL3a := Lib.hid (HL3a.out.below hbV)
    replace HL3b := Lib.hid (HL3b.out.below hbV)
    replace HL3c := Lib.hid (HL3c.out.below hbV)
    replace HL5a := Lib.hid (HL5a.out.below hbV)
    replace HL5b := Lib.hid (HL5b.out.below hbV)
    replace HL5c := Lib.hid (HL5c.out.below hbV)
    replace HL8b := Lib.hid (HL8b.out.below hbV)
    replace HL8da := Lib.hid (HL8da.out.below hbV)
    replace HL8db := Lib.hid (HL8db.out.below hbV)
    replace HL8dc := Lib.hid (HL8dc.out.below hbV)
    clear hbV
    have z_0_0 := HZ1.out.cell (i := 0) rfl
    have z_0_1 := HZ1.out.cell (i := 1) rfl
    have z_0_2 := HZ1.out.cell (i := 2) rfl
    have z_1_0 := HZ2.out.cell (i := 0) rfl
    have z_1_1 := HZ2.out.cell (i := 1) rfl
    have z_2_0 := HZ3.out.cell (i := 0) rfl
    have z_2_1 := HZ3.out.cell (i := 1) rfl
    have z_2_2 := HZ3.out.cell (i := 2) rfl
    have z_3_0 := HZ4.out.cell (i := 0) rfl
    have z_3_1 := HZ4.out.cell (i := 1) rfl
    have z_3_2 := HZ4.out.cell (i := 2) rfl
    have z_4_0 := HZ5.out.cell (i := 0) rfl
    have z_4_1 := HZ5.out.cell (i := 1) rfl
    have z_4_2 := HZ5.out.cell (i := 2) rfl
    have z_5_0 := HZ6.out.cell (i := 0) rfl
    have z_5_1 := HZ6.out.cell (i := 1) rfl
    have z_6_0 := HZ7.out.cell (i := 0) rfl
    have z_6_1 := HZ7.out.cell (i := 1) rfl
    have z_6_2 := HZ7.out.cell (i := 2) rfl
    try (go_wp2_with fail)
    clear z_0_0 z_0_1 z_0_2 z_1_0 z_1_1 z_2_0 z_2_1 z_2_2 z_3_0 z_3_1 z_3_2 z_4_0 z_4_1 z_4_2 z_5_0 z_5_1 z_6_0 z_6_1 z_6_2
    refine (impl_VerifyBit ⟨P8a, Q8a, G8a⟩ h8b _ l8b x8c _ ⟨l8da, l8db, l8dc⟩ _ HL8b.out ⟨by omega, by omega⟩ ⟨by omega, by omega⟩ (PfR.mk HL8da.out HL8db.out HL8dc.out)).mono ?_
    rintro e u10 ⟨rfl, hb⟩
    obtain ⟨q10a, hq10a⟩ : ∃ r, vbR ⟨P8a, Q8a, G8a⟩ sBit h8b l8b x8c ⟨l8da, l8db, l8dc⟩ = r := ⟨_, rfl⟩
    have Hq10a := Lib.hid hq10a
    rw [hq10a]
    clear hq10a
    obtain ⟨q10b, hq10b⟩ : ∃ r, voA ⟨P8a, Q8a, G8a⟩ h8b l8b x8c = r := ⟨_, rfl⟩
    have Hq10b := Lib.hid hq10b
    rw [hq10b]
    clear hq10b
    replace HB := Lib.hid (Below.next HB.out hb)
    replace HZ1 := Lib.hid (HZ1.out.below hb)
    replace HZ2 := Lib.hid (HZ2.out.below hb)
    replace HZ3 := Lib.hid (HZ3.out.below hb)
    replace HZ4 := Lib.hid (HZ4.out.below hb)
    replace HZ5 := Lib.hid (HZ5.out.below hb)
    replace HZ6 := Lib.hid (HZ6.out.below hb)
    replace HZ7 := Lib.hid (HZ7.out.below hb)
    replace HL1b := Lib.hid (HL1b.out.below hb)
    replace HL1e := Lib.hid (HL1e.out.below hb)
    replace HL3a := Lib.hid (HL3a.out.below hb)
    replace HL3b := Lib.hid (HL3b.out.below hb)
    replace HL3c := Lib.hid (HL3c.out.below hb)
    replace HL5a := Lib.hid (HL5a.out.below hb)
    replace HL5b := Lib.hid (HL5b.out.below hb)
    replace HL5c := Lib.hid (HL5c.out.below hb)
    replace HL8b := Lib.hid (HL8b.out.below hb)
    replace HL8da := Lib.hid (HL8da.out.below hb)
    replace HL8db := Lib.hid (HL8db.out.below hb)
    replace HL8dc := Lib.hid (HL8dc.out.below hb)
    clear hb
    have z_0_0 := HZ1.out.cell (i := 0) rfl
    have z_0_1 := HZ1.out.cell (i := 1) rfl
    have z_0_2 := HZ1.out.cell (i := 2) rfl
    have z_1_0 := HZ2.out.cell (i := 0) rfl
    have z_1_1 := HZ2.out.cell (i := 1) rfl
    have z_2_0 := HZ3.out.cell (i := 0) rfl
    have z_2_1 := HZ3.out.cell (i := 1) rfl
    have z_2_2 := HZ3.out.cell (i := 2) rfl
    have z_3_0 := HZ4.out.cell (i := 0) rfl
    have z_3_1 := HZ4.out.cell (i := 1) rfl
    have z_3_2 := HZ4.out.cell (i := 2) rfl
    have z_4_0 := HZ5.out.cell (i := 0) rfl
    have z_4_1 := HZ5.out.cell (i := 1) rfl
    have z_4_2 := HZ5.out.cell (i := 2) rfl
    have z_5_0 := HZ6.out.cell (i := 0) rfl
    have z_5_1 := HZ6.out.cell (i := 1) rfl
    have z_6_0 := HZ7.out.cell (i := 0) rfl
    have z_6_1 := HZ7.out.cell (i := 1) rfl
    have z_6_2 := HZ7.out.cell (i := 2) rfl
    try (go_wp2_with fail)
    clear z_0_0 z_0_1 z_0_2 z_1_0 z_1_1 z_2_0 z_2_1 z_2_2 z_3_0 z_3_1 z_3_2 z_4_0 z_4_1 z_4_2 z_5_0 z_5_1 z_6_0 z_6_1 z_6_2
    refine (spec_VerifyBit ⟨P8a, Q8a, G8a⟩ h8b _ l8b x8c _ ⟨l8da, l8db, l8dc⟩ _ HL8b.out ⟨by omega, by omega⟩ ⟨by omega, by omega⟩ (PfR.mk HL8da.out HL8db.out HL8dc.out)).mono ?_
    rintro e u11 ⟨rfl, hb⟩
    rw [Hq10a.out]
    rw [Hq10b.out]
    replace HB := Lib.hid (Below.next HB.out hb)
    replace HZ1 := Lib.hid (HZ1.out.below hb)
    replace HZ2 := Lib.hid (HZ2.out.below hb)
    replace HZ3 := Lib.hid (HZ3.out.below hb)
    replace HZ4 := Lib.hid (HZ4.out.below hb)
    replace HZ5 := Lib.hid (HZ5.out.below hb)
    replace HZ6 := Lib.hid (HZ6.out.below hb)
    replace HZ7 := Lib.hid (HZ7.out.below hb)
    replace HL1b := Lib.hid (HL1b.out.below hb)
    replace HL1e := Lib.hid (HL1e.out.below hb)
    replace HL3a := Lib.hid (HL3a.out.below hb)
    replace HL3b := Lib.hid (HL3b.out.below hb)
    replace HL3c := Lib.hid (HL3c.out.below hb)
    replace HL5a := Lib.hid (HL5a.out.below hb)
    replace HL5b := Lib.hid (HL5b.out.below hb)
    replace HL5c := Lib.hid (HL5c.out.below hb)
    replace HL8b := Lib.hid (HL8b.out.below hb)
    replace HL8da := Lib.hid (HL8da.out.below hb)
    replace HL8db := Lib.hid (HL8db.out.below hb)
    replace HL8dc := Lib.hid (HL8dc.out.below hb)
    clear hb
    have eq_q10b : (q10b == q10b) = true := by simp
    have eq_q10a : (q10a == q10a) = true := by simp
    have z_0_0 := HZ1.out.cell (i := 0) rfl
    have z_0_1 := HZ1.out.cell (i := 1) rfl
    have z_0_2 := HZ1.out.cell (i := 2) rfl
    have z_1_0 := HZ2.out.cell (i := 0) rfl
    have z_1_1 := HZ2.out.cell (i := 1) rfl
    have z_2_0 := HZ3.out.cell (i := 0) rfl
    have z_2_1 := HZ3.out.cell (i := 1) rfl
    have z_2_2 := HZ3.out.cell (i := 2) rfl
    have z_3_0 := HZ4.out.cell (i := 0) rfl
    have z_3_1 := HZ4.out.cell (i := 1) rfl
    have z_3_2 := HZ4.out.cell (i := 2) rfl
    have z_4_0 := HZ5.out.cell (i := 0) rfl
    have z_4_1 := HZ5.out.cell (i := 1) rfl
    have z_4_2 := HZ5.out.cell (i := 2) rfl
    have z_5_0 := HZ6.out.cell (i := 0) rfl
    have z_5_1 := HZ6.out.cell (i := 1) rfl
    have z_6_0 := HZ7.out.cell (i := 0) rfl
    have z_6_1 := HZ7.out.cell (i := 1) rfl
    have z_6_2 := HZ7.out.cell (i := 2) rfl
    try (go_wp2_with fail)
    clear z_0_0 z_0_1 z_0_2 z_1_0 z_1_1 z_2_0 z_2_1 z_2_2 z_3_0 z_3_1 z_3_2 z_4_0 z_4_1 z_4_2 z_5_0 z_5_1 z_6_0 z_6_1 z_6_2
    go_ret
    exact ⟨rfl, HB.out⟩
end Go.Proofs.Ytboahnklilmdpaa
