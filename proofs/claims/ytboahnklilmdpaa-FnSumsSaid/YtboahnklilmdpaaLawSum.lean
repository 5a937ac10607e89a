/- The walk of FnSums (printed by gen_lawsum.py). -/
import Derived.Test.YtboahnklilmdpaaDrS2
import Derived.Test.YtboahnklilmdpaaEqI
import Derived.Deep.Cut
namespace Go.Proofs.Ytboahnklilmdpaa
open Go.RowKit
set_option linter.unusedSimpArgs false
set_option linter.unusedVariables false

theorem zip_succ {f : Int → Int → Int} {l rs : List Int} {k : Nat} (h : k < l.length) (h2 : rs.length = l.length) : (List.zipWith f l rs).take (k + 1) = (List.zipWith f l rs).take k ++ [f (nth l k) (nth rs k)] := by
  have hk : k < (List.zipWith f l rs).length := by simp; omega
  rw [List.take_succ_eq_append_getElem hk, List.getElem_zipWith]
  have e1 : nth l k = l[k] := by simp [nth, List.getD, h]
  have e2 : nth rs k = rs[k]'(by omega) := by simp [nth, List.getD, show k < rs.length by omega]
  rw [e1, e2]
def bigB (m m' : Nat) : Bool := decide ((1048576 : Int) < (m : Int)) || decide ((1048576 : Int) - (m : Int) < (m' : Int))
theorem laws_big (a a' : Option Addr) (m c m' c' : Nat) (w : World) (hm : (m : Int) ≤ 9223372036854775807) :
    Calls Try.prog 47 #[.slice a m c, .slice a' m' c'] w fun e w' => e = .returned (.bool (bigB m m')) ∧ w = w' := by
  have ew : IntKind.i64.wrap ((1048576 : Int) - (m : Int)) = (1048576 : Int) - (m : Int) := IntWalk.i64_in _ (by omega)
  by_cases h : (1048576 : Int) < (m : Int)
  · have HB : Hid (bigB m m' = true) := by unfold Hid bigB; rw [decide_eq_true h]; rfl
    rw [HB.out]
    have hd : decide ((1048576 : Int) < (m : Int)) = true := decide_eq_true h
    go_enter Try.func47, Try.ntmps47
    go_wp2_with fail
    go_ret
    exact ⟨rfl, rfl⟩
  · obtain ⟨q, hq⟩ : ∃ q, decide ((1048576 : Int) - (m : Int) < (m' : Int)) = q := ⟨_, rfl⟩
    have HB : Hid (bigB m m' = q) := by unfold Hid bigB; rw [decide_eq_false h, hq]; rfl
    rw [HB.out]
    have hd : decide ((1048576 : Int) < (m : Int)) = false := decide_eq_false h
    have HQ := Lib.hid hq
    clear hq
    go_enter Try.func47, Try.ntmps47
    go_wp2_with fail
    go_ret
    exact ⟨ret_bool HQ.out, rfl⟩
set_option maxRecDepth 100000 in
set_option maxHeartbeats 2000000 in
theorem law_Sums (va vb : Value) (w : World) (h1 : Bytes w va) (h2 : Bytes w vb) :
    Calls Try.prog 10 #[va, vb] w fun e w' => e = .returned (.bool true) ∧ Below w.heap.size w w' := by
  obtain ⟨a, m, c, rfl, k1, k2, hv⟩ := h1
  obtain ⟨a', m', c', rfl, k3, k4, hv'⟩ := h2
  have H1 : Hid (Bytes w (.slice a m c)) := ⟨a, m, c, rfl, k1, k2, hv⟩
  have H2 : Hid (Bytes w (.slice a' m' c')) := ⟨a', m', c', rfl, k3, k4, hv'⟩
  clear hv hv'
  unfold maxLen at k2 k4
  rcases (by cases bigB m m' <;> simp : bigB m m' = true ∨ bigB m m' = false) with hbig | hbig
  · go_enter Try.func10, Try.ntmps10
    go_wp2_with fail
    refine (laws_big _ _ _ _ _ _ _ (by omega)).mono ?_
    rintro e w1 ⟨rfl, rfl⟩
    rw [hbig]
    go_wp2_with fail
    go_ret
    exact ⟨rfl, Below.refl _ _⟩
  have HBG := Lib.hid hbig
  clear hbig
  have HB : Hid (Below w.heap.size w w) := Below.refl _ _
  go_enter Try.func10, Try.ntmps10
  go_wp2_with fail
  refine (laws_big _ _ _ _ _ _ _ (by omega)).mono ?_
  rintro e w1 ⟨rfl, rfl⟩
  rw [HBG.out]
  clear HBG
  go_wp2_with fail
  try (go_wp2_with fail)
  refine (spec_DrawProveSum _ _ (H1.out.below HB.out)).mono ?_
  rintro e u1 ⟨⟨P1a, Q1a, G1a, h1b, v1b, l1b, v1c, l1c, v1d, l1d, v1e, l1e, rfl, hgr1a, ⟨⟨h1bl, h1bu⟩, hs1b, hl1b⟩, ⟨hs1c, hl1c⟩, ⟨hs1d, hl1d⟩, ⟨hs1e, hl1e⟩⟩, hb⟩
  clear hgr1a
  have HL1b := Lib.hid hs1b
  obtain ⟨a1b, n1b, c1b, rfl⟩ := hs1b.shape
  have HE1b := Lib.hid hs1b.len
  clear hs1b
  have HL1c := Lib.hid hs1c
  obtain ⟨a1c, n1c, c1c, rfl⟩ := hs1c.shape
  have HE1c := Lib.hid hs1c.len
  clear hs1c
  have HL1d := Lib.hid hs1d
  obtain ⟨a1d, n1d, c1d, rfl⟩ := hs1d.shape
  have HE1d := Lib.hid hs1d.len
  clear hs1d
  have HL1e := Lib.hid hs1e
  obtain ⟨a1e, n1e, c1e, rfl⟩ := hs1e.shape
  have HE1e := Lib.hid hs1e.len
  clear hs1e
  replace HB := Lib.hid (Below.next HB.out hb)
  clear hb
  obtain ⟨V2, hV⟩ : ∃ V, V = (u1.alloc (.cells #[.int .i64 P1a, .int .i64 Q1a, .int .i64 G1a] 39)).alloc (.cells #[.int .i64 h1b, .slice a1b n1b c1b] 79) := ⟨_, rfl⟩
  have hbV : Below u1.heap.size u1 V2 := by rw [hV]; (repeat (first | exact Below.refl _ _ | assumption | refine Below.drew ?_ | refine Below.alloc ?_ (by first | (simp; done) | (simp; omega)) _ | refine Below.setCell ?_ (by first | (simp; done) | (simp; omega)) _))
  have HZ1 : Hid (BoxN V2 u1.heap.size 39 [.int .i64 P1a, .int .i64 Q1a, .int .i64 G1a]) := by unfold Hid; rw [hV]; have h := ((BoxN.new u1 [.int .i64 P1a, .int .i64 Q1a, .int .i64 G1a] 39).alloc (.cells #[.int .i64 h1b, .slice a1b n1b c1b] 79)); simpa using h
  have HZ2 : Hid (BoxN V2 (u1.heap.size + 1) 79 [.int .i64 h1b, .slice a1b n1b c1b]) := by unfold Hid; rw [hV]; have h := (BoxN.new (u1.alloc (.cells #[.int .i64 P1a, .int .i64 Q1a, .int .i64 G1a] 39)) [.int .i64 h1b, .slice a1b n1b c1b] 79); simpa using h
  try (go_wp2_with fail)
  rw [← hV]
  clear hV
  replace HB := Lib.hid (Below.next HB.out hbV)
  replace HL1b := Lib.hid (HL1b.out.below hbV)
  replace HL1c := Lib.hid (HL1c.out.below hbV)
  replace HL1d := Lib.hid (HL1d.out.below hbV)
  replace HL1e := Lib.hid (HL1e.out.below hbV)
  clear hbV
  have z_0_0 := HZ1.out.cell (i := 0) rfl
  have z_0_1 := HZ1.out.cell (i := 1) rfl
  have z_0_2 := HZ1.out.cell (i := 2) rfl
  have z_1_0 := HZ2.out.cell (i := 0) rfl
  have z_1_1 := HZ2.out.cell (i := 1) rfl
  try (go_wp2_with fail)
  clear z_0_0 z_0_1 z_0_2 z_1_0 z_1_1
  refine (impl_ProveSum ⟨P1a, Q1a, G1a⟩ h1b _ l1b _ l1c _ l1d _ l1e _ HL1b.out ⟨by omega, by omega⟩ HL1c.out HL1d.out HL1e.out).mono ?_
  rintro e u3 ⟨⟨v3a, v3b, v3c, rfl, o3a, o3b, o3c⟩, hb⟩
  obtain ⟨D3, hD3⟩ : ∃ d, psR ⟨P1a, Q1a, G1a⟩ sSum h1b l1b l1c l1d l1e = d := ⟨_, rfl⟩
  have HD3 := Lib.hid hD3
  rw [hD3] at o3a o3b o3c
  clear hD3
  have hs3a := o3a.ints
  clear o3a
  have HL3a := Lib.hid hs3a
  obtain ⟨a3a, n3a, c3a, rfl⟩ := hs3a.shape
  have HE3a := Lib.hid hs3a.len
  clear hs3a
  have hs3b := o3b.ints
  clear o3b
  have HL3b := Lib.hid hs3b
  obtain ⟨a3b, n3b, c3b, rfl⟩ := hs3b.shape
  have HE3b := Lib.hid hs3b.len
  clear hs3b
  have hs3c := o3c.ints
  clear o3c
  have HL3c := Lib.hid hs3c
  obtain ⟨a3c, n3c, c3c, rfl⟩ := hs3c.shape
  have HE3c := Lib.hid hs3c.len
  clear hs3c
  obtain ⟨q3, hq3⟩ : ∃ r, psB ⟨P1a, Q1a, G1a⟩ h1b l1b l1c l1d l1e = r := ⟨_, rfl⟩
  have Hq3 := Lib.hid hq3
  rw [hq3]
  clear hq3
  replace HB := Lib.hid (Below.next HB.out hb)
  replace HZ1 := Lib.hid (HZ1.out.below hb)
  replace HZ2 := Lib.hid (HZ2.out.below hb)
  replace HL1b := Lib.hid (HL1b.out.below hb)
  replace HL1c := Lib.hid (HL1c.out.below hb)
  replace HL1d := Lib.hid (HL1d.out.below hb)
  replace HL1e := Lib.hid (HL1e.out.below hb)
  clear hb
  have z_0_0 := HZ1.out.cell (i := 0) rfl
  have z_0_1 := HZ1.out.cell (i := 1) rfl
  have z_0_2 := HZ1.out.cell (i := 2) rfl
  have z_1_0 := HZ2.out.cell (i := 0) rfl
  have z_1_1 := HZ2.out.cell (i := 1) rfl
  have lt_HZ1 := HZ1.out.lt
  have lt_HZ2 := HZ2.out.lt
  obtain ⟨V4, hV⟩ : ∃ V, V = u3.alloc (.cells #[.slice a3a n3a c3a, .slice a3b n3b c3b, .slice a3c n3c c3c] 42) := ⟨_, rfl⟩
  have hbV : Below u3.heap.size u3 V4 := by rw [hV]; (repeat (first | exact Below.refl _ _ | assumption | refine Below.drew ?_ | refine Below.alloc ?_ (by first | (simp; done) | (simp; omega)) _ | refine Below.setCell ?_ (by first | (simp; done) | (simp; omega)) _))
  have HZ3 : Hid (BoxN V4 u3.heap.size 42 [.slice a3a n3a c3a, .slice a3b n3b c3b, .slice a3c n3c c3c]) := by unfold Hid; rw [hV]; have h := (BoxN.new u3 [.slice a3a n3a c3a, .slice a3b n3b c3b, .slice a3c n3c c3c] 42); simpa using h
  try (go_wp2_with fail)
  rw [← hV]
  clear hV
  clear lt_HZ1
  clear lt_HZ2
  clear z_0_0 z_0_1 z_0_2 z_1_0 z_1_1
  replace HB := Lib.hid (Below.next HB.out hbV)
  replace HZ1 := Lib.hid (HZ1.out.below hbV)
  replace HZ2 := Lib.hid (HZ2.out.below hbV)
  replace HL1b := Lib.hid (HL1b.out.below hbV)
  replace HL1c := Lib.hid (HL1c.out.below hbV)
  replace HL1d := Lib.hid (HL1d.out.below hbV)
  replace HL1e := Lib.hid (HL1e.out.below hbV)
  replace HL3a := Lib.hid (HL3a.out.below hbV)
  replace HL3b := Lib.hid (HL3b.out.below hbV)
  replace HL3c := Lib.hid (HL3c.out.below hbV)
  clear hbV
  have z_0_0 := HZ1.out.cell (i := 0) rfl
  have z_0_1 := HZ1.out.cell (i := 1) rfl
  have z_0_2 := HZ1.out.cell (i := 2) rfl
  have z_1_0 := HZ2.out.cell (i := 0) rfl
  have z_1_1 := HZ2.out.cell (i := 1) rfl
  have z_2_0 := HZ3.out.cell (i := 0) rfl
  have z_2_1 := HZ3.out.cell (i := 1) rfl
  have z_2_2 := HZ3.out.cell (i := 2) rfl
  try (go_wp2_with fail)
  clear z_0_0 z_0_1 z_0_2 z_1_0 z_1_1 z_2_0 z_2_1 z_2_2
  refine (spec_ProveSum ⟨P1a, Q1a, G1a⟩ h1b _ l1b _ l1c _ l1d _ l1e _ HL1b.out ⟨by omega, by omega⟩ HL1c.out HL1d.out HL1e.out).mono ?_
  rintro e u5 ⟨⟨v5a, v5b, v5c, rfl, o5a, o5b, o5c⟩, hb⟩
  rw [HD3.out] at o5a o5b o5c
  have hs5a := o5a.ints
  clear o5a
  have HL5a := Lib.hid hs5a
  obtain ⟨a5a, n5a, c5a, rfl⟩ := hs5a.shape
  have HE5a := Lib.hid hs5a.len
  clear hs5a
  have hs5b := o5b.ints
  clear o5b
  have HL5b := Lib.hid hs5b
  obtain ⟨a5b, n5b, c5b, rfl⟩ := hs5b.shape
  have HE5b := Lib.hid hs5b.len
  clear hs5b
  have hs5c := o5c.ints
  clear o5c
  have HL5c := Lib.hid hs5c
  obtain ⟨a5c, n5c, c5c, rfl⟩ := hs5c.shape
  have HE5c := Lib.hid hs5c.len
  clear hs5c
  rw [Hq3.out]
  replace HB := Lib.hid (Below.next HB.out hb)
  replace HZ1 := Lib.hid (HZ1.out.below hb)
  replace HZ2 := Lib.hid (HZ2.out.below hb)
  replace HZ3 := Lib.hid (HZ3.out.below hb)
  replace HL1b := Lib.hid (HL1b.out.below hb)
  replace HL1c := Lib.hid (HL1c.out.below hb)
  replace HL1d := Lib.hid (HL1d.out.below hb)
  replace HL1e := Lib.hid (HL1e.out.below hb)
  replace HL3a := Lib.hid (HL3a.out.below hb)
  replace HL3b := Lib.hid (HL3b.out.below hb)
  replace HL3c := Lib.hid (HL3c.out.below hb)
  clear hb
  have eq_q3 : (q3 == q3) = true := by simp
  have z_0_0 := HZ1.out.cell (i := 0) rfl
  have z_0_1 := HZ1.out.cell (i := 1) rfl
  have z_0_2 := HZ1.out.cell (i := 2) rfl
  have z_1_0 := HZ2.out.cell (i := 0) rfl
  have z_1_1 := HZ2.out.cell (i := 1) rfl
  have z_2_0 := HZ3.out.cell (i := 0) rfl
  have z_2_1 := HZ3.out.cell (i := 1) rfl
  have z_2_2 := HZ3.out.cell (i := 2) rfl
  have lt_HZ1 := HZ1.out.lt
  have lt_HZ2 := HZ2.out.lt
  have lt_HZ3 := HZ3.out.lt
  obtain ⟨V6, hV⟩ : ∃ V, V = u5.alloc (.cells #[.slice a5a n5a c5a, .slice a5b n5b c5b, .slice a5c n5c c5c] 42) := ⟨_, rfl⟩
  have hbV : Below u5.heap.size u5 V6 := by rw [hV]; (repeat (first | exact Below.refl _ _ | assumption | refine Below.drew ?_ | refine Below.alloc ?_ (by first | (simp; done) | (simp; omega)) _ | refine Below.setCell ?_ (by first | (simp; done) | (simp; omega)) _))
  have HZ4 : Hid (BoxN V6 u5.heap.size 42 [.slice a5a n5a c5a, .slice a5b n5b c5b, .slice a5c n5c c5c]) := by unfold Hid; rw [hV]; have h := (BoxN.new u5 [.slice a5a n5a c5a, .slice a5b n5b c5b, .slice a5c n5c c5c] 42); simpa using h
  try (go_wp2_with fail)
  rw [← hV]
  clear hV
  clear lt_HZ1
  clear lt_HZ2
  clear lt_HZ3
  clear z_0_0 z_0_1 z_0_2 z_1_0 z_1_1 z_2_0 z_2_1 z_2_2
  replace HB := Lib.hid (Below.next HB.out hbV)
  replace HZ1 := Lib.hid (HZ1.out.below hbV)
  replace HZ2 := Lib.hid (HZ2.out.below hbV)
  replace HZ3 := Lib.hid (HZ3.out.below hbV)
  replace HL1b := Lib.hid (HL1b.out.below hbV)
  replace HL1c := Lib.hid (HL1c.out.below hbV)
  replace HL1d := Lib.hid (HL1d.out.below hbV)
  replace HL1e := Lib.hid (HL1e.out.below hbV)
  replace HL3a := Lib.hid (HL3a.out.below hbV)
  replace HL3b := Lib.hid (HL3b.out.below hbV)
  replace HL3c := Lib.hid (HL3c.out.below hbV)
  replace HL5a := Lib.hid (HL5a.out.below hbV)
  replace HL5b := Lib.hid (HL5b.out.below hbV)
  replace HL5c := Lib.hid (HL5c.out.below hbV)
  clear hbV
  have z_0_0 := HZ1.out.cell (i := 0) rfl
  have z_0_1 := HZ1.out.cell (i := 1) rfl
  have z_0_2 := HZ1.out.cell (i := 2) rfl
  have z_1_0 := HZ2.out.cell (i := 0) rfl
  have z_1_1 := HZ2.out.cell (i := 1) rfl
  have z_2_0 := HZ3.out.cell (i := 0) rfl
  have z_2_1 := HZ3.out.cell (i := 1) rfl
  have z_2_2 := HZ3.out.cell (i := 2) rfl
  have z_3_0 := HZ4.out.cell (i := 0) rfl
  have z_3_1 := HZ4.out.cell (i := 1) rfl
  have z_3_2 := HZ4.out.cell (i := 2) rfl
  try (go_wp2_with fail)
  clear z_0_0 z_0_1 z_0_2 z_1_0 z_1_1 z_2_0 z_2_1 z_2_2 z_3_0 z_3_1 z_3_2
  refine (laws_pSameProof _ _ D3 _ (PfR.mk HL3a.out HL3b.out HL3c.out) (PfR.mk HL5a.out HL5b.out HL5c.out)).mono ?_
  rintro e u7 ⟨rfl, hb⟩
  replace HB := Lib.hid (Below.next HB.out hb)
  replace HZ1 := Lib.hid (HZ1.out.below hb)
  replace HZ2 := Lib.hid (HZ2.out.below hb)
  replace HZ3 := Lib.hid (HZ3.out.below hb)
  replace HZ4 := Lib.hid (HZ4.out.below hb)
  replace HL1b := Lib.hid (HL1b.out.below hb)
  replace HL1c := Lib.hid (HL1c.out.below hb)
  replace HL1d := Lib.hid (HL1d.out.below hb)
  replace HL1e := Lib.hid (HL1e.out.below hb)
  replace HL3a := Lib.hid (HL3a.out.below hb)
  replace HL3b := Lib.hid (HL3b.out.below hb)
  replace HL3c := Lib.hid (HL3c.out.below hb)
  replace HL5a := Lib.hid (HL5a.out.below hb)
  replace HL5b := Lib.hid (HL5b.out.below hb)
  replace HL5c := Lib.hid (HL5c.out.below hb)
  clear hb
  have z_0_0 := HZ1.out.cell (i := 0) rfl
  have z_0_1 := HZ1.out.cell (i := 1) rfl
  have z_0_2 := HZ1.out.cell (i := 2) rfl
  have z_1_0 := HZ2.out.cell (i := 0) rfl
  have z_1_1 := HZ2.out.cell (i := 1) rfl
  have z_2_0 := HZ3.out.cell (i := 0) rfl
  have z_2_1 := HZ3.out.cell (i := 1) rfl
  have z_2_2 := HZ3.out.cell (i := 2) rfl
  have z_3_0 := HZ4.out.cell (i := 0) rfl
  have z_3_1 := HZ4.out.cell (i := 1) rfl
  have z_3_2 := HZ4.out.cell (i := 2) rfl
  go_upto_if 69 with fail
  clear z_0_0 z_0_1 z_0_2 z_1_0 z_1_1 z_2_0 z_2_1 z_2_2 z_3_0 z_3_1 z_3_2
  go_cut [] from 31 (fun wx => Hid (Below u7.heap.size u7 wx))
  case first =>
    have HCB : Hid (Below u7.heap.size u7 u7) := Below.refl _ _
    cases q3 with
    | false =>
      have z_0_0 := HZ1.out.cell (i := 0) rfl
      have z_0_1 := HZ1.out.cell (i := 1) rfl
      have z_0_2 := HZ1.out.cell (i := 2) rfl
      have z_1_0 := HZ2.out.cell (i := 0) rfl
      have z_1_1 := HZ2.out.cell (i := 1) rfl
      have z_2_0 := HZ3.out.cell (i := 0) rfl
      have z_2_1 := HZ3.out.cell (i := 1) rfl
      have z_2_2 := HZ3.out.cell (i := 2) rfl
      have z_3_0 := HZ4.out.cell (i := 0) rfl
      have z_3_1 := HZ4.out.cell (i := 1) rfl
      have z_3_2 := HZ4.out.cell (i := 2) rfl
      try (go_wp2_with fail)
      clear z_0_0 z_0_1 z_0_2 z_1_0 z_1_1 z_2_0 z_2_1 z_2_2 z_3_0 z_3_1 z_3_2
      go_meet
      exact HCB
    | true =>
      have z_0_0 := HZ1.out.cell (i := 0) rfl
      have z_0_1 := HZ1.out.cell (i := 1) rfl
      have z_0_2 := HZ1.out.cell (i := 2) rfl
      have z_1_0 := HZ2.out.cell (i := 0) rfl
      have z_1_1 := HZ2.out.cell (i := 1) rfl
      have z_2_0 := HZ3.out.cell (i := 0) rfl
      have z_2_1 := HZ3.out.cell (i := 1) rfl
      have z_2_2 := HZ3.out.cell (i := 2) rfl
      have z_3_0 := HZ4.out.cell (i := 0) rfl
      have z_3_1 := HZ4.out.cell (i := 1) rfl
      have z_3_2 := HZ4.out.cell (i := 2) rfl
      try (go_wp2_with fail)
      clear z_0_0 z_0_1 z_0_2 z_1_0 z_1_1 z_2_0 z_2_1 z_2_2 z_3_0 z_3_1 z_3_2
      have HPS := Lib.hid (psB_parts Hq3.out)
      have HT := Lib.hid (sum_tail (s := sSum) Hq3.out)
      have HG := Lib.hid (goodG_ok (baB_parts HPS.out.1).1)
      have zq1 : 2 ≤ Q1a := HG.out.q1
      have zq2 : Q1a ≤ P1a - 1 := HG.out.q2
      have zp2 : P1a ≤ 2000000000 := HG.out.p2
      have zq0 : 0 < Q1a := by omega
      have hqz : ¬ Q1a = 0 := by omega
      have hqz2 : (Q1a == 0) = false := by rw [beq_eq_false_iff_ne]; omega
      have HBL := Lib.hid (exps_bd (gr := ⟨P1a, Q1a, G1a⟩) HPS.out.2.2.2.2.2.2.1)
      have HLL : Hid (l1c.length = l1d.length) := HPS.out.2.2.2.1
      have HRL : Hid (n1c = n1d) := by have := HLL.out; have := HE1d.out; have := HE1c.out; unfold Hid; omega
      obtain ⟨ZL, hZL⟩ : ∃ z, List.zipWith (cmR ⟨P1a, Q1a, G1a⟩ h1b l1b) l1d l1c = z := ⟨_, rfl⟩
      have HZS : Hid (∀ k, k < l1d.length → ZL.take (k + 1) = ZL.take k ++ [cmR ⟨P1a, Q1a, G1a⟩ h1b l1b (nth l1d k) (nth l1c k)]) := by unfold Hid; rw [← hZL]; exact fun k hk => zip_succ hk HLL.out
      have HZL : Hid (ZL.length = n1d) := by unfold Hid; rw [← hZL, List.length_zipWith]; have := HLL.out; have := HE1d.out; omega
      have HT2 : Hid (vsR ⟨P1a, Q1a, G1a⟩ sSum h1b l1b ZL (sumM Q1a l1d) D3 = true ∧ vsA ⟨P1a, Q1a, G1a⟩ h1b l1b ZL (sumM Q1a l1d) = true) := by unfold Hid; rw [← hZL, ← HD3.out]; exact HT.out.2
      have HSI : Hid (I64 (sumM Q1a l1d)) := by have h := sumM_bd zq0 l1d; exact ⟨by omega, by omega⟩
      clear hZL
      have hl24 : n1d ≤ 24 := by have := HPS.out.2.2.1; have := HE1d.out; omega
      go_loopg [14, 15, 72] n1d (fun gh tv ov iv wr => ∃ (k : Nat), k + gh = n1d ∧ iv = .int .i64 k ∧ tv = .int .i64 (sumM Q1a (l1d.take k)) ∧ Hid (OwnI wr u7.heap.size ov (ZL.take k)) ∧ Below u7.heap.size u7 wr)
      case atStart => exact ⟨0, by omega, rfl, rfl, OwnI.nil _ _, Below.refl _ _⟩
      case round =>
        obtain ⟨k, hkg, rfl, rfl, HOW, hbr⟩ := hrel
        have HLK : Hid ((ZL.take k).length = k) := by unfold Hid; rw [List.length_take, HZL.out]; omega
        obtain ⟨ao, co, hv⟩ := HOW.out.shape
        rw [HLK.out] at hv
        subst hv
        have hsb := sumM_bd zq0 (l1d.take k)
        obtain ⟨hs0, hs1⟩ := hsb
        by_cases hlt : k < n1d
        · obtain ⟨lb, lo, hla, hlc⟩ := HL1d.out.at_ (by omega)
          obtain ⟨rb, ro, hra, hrc⟩ := HL1c.out.at_ (by have := HRL.out; omega)
          have xl := box_at (hlc k hlt) hbr
          have yr := box_at (hrc k (by have := HRL.out; omega)) hbr
          have HKL : Hid (k < l1d.length) := by have := HE1d.out; unfold Hid; omega
          have HXI : Hid (I64 (nth l1d k)) := nth_64 HL1d.out k
          have HYI : Hid (I64 (nth l1c k)) := nth_64 HL1c.out k
          have HLB : Hid (Ints wr (.slice a1b n1b c1b) l1b) := HL1b.out.below hbr
          have HZB := Lib.hid (HT.out.1 k HKL.out)
          have HZT := Lib.hid (HZS.out k HKL.out)
          have HSS := Lib.hid (sumM_succ (q := Q1a) HKL.out)
          have hxb : 0 ≤ nth l1d k ∧ nth l1d k < Q1a := by
            have e : nth l1d k = l1d[k]'HKL.out := by have := HKL.out; simp [nth, List.getD, this]
            rw [e]; exact HBL.out _ (List.getElem_mem _)
          clear hlc hrc
          obtain ⟨x, hx⟩ : ∃ x, nth l1d k = x := ⟨_, rfl⟩
          obtain ⟨y, hy⟩ : ∃ y, nth l1c k = y := ⟨_, rfl⟩
          rw [hx] at xl HXI HZB HZT HSS hxb
          rw [hy] at yr HYI HZB HZT
          clear hx hy
          obtain ⟨hx0, hx1⟩ := hxb
          obtain ⟨z, hz⟩ : ∃ z, cmR ⟨P1a, Q1a, G1a⟩ h1b l1b x y = z := ⟨_, rfl⟩
          have HZ0 := Lib.hid hz
          have HZI : Hid (I64 z) := by rw [← hz]; have h := @cmR_bd ⟨P1a, Q1a, G1a⟩ h1b l1b x y; exact ⟨by omega, by omega⟩
          rw [hz] at HZT
          clear hz
          obtain ⟨S, hS⟩ : ∃ s, sumM Q1a (l1d.take k) = s := ⟨_, rfl⟩
          rw [hS] at HSS hs0 hs1 ⊢
          clear hS
          have hla' := hla
          have hra' := hra
          subst hla'
          subst hra'
          clear hla hra
          have ewt : IntKind.i64.wrap (S + x) = S + x := IntWalk.i64_in _ (by omega)
          have ett : Int.tmod (S + x) Q1a = (S + x) % Q1a := Int.tmod_eq_emod_of_nonneg (by omega)
          have em0 : 0 ≤ (S + x) % Q1a := Int.emod_nonneg _ hqz
          have em1 : (S + x) % Q1a < Q1a := Int.emod_lt_of_pos _ zq0
          have ewu : IntKind.i64.wrap ((S + x) % Q1a) = (S + x) % Q1a := IntWalk.i64_in _ (by omega)
          clear em0 em1
          have b0 : (0 : Int) ≤ (k : Int) := by omega
          have bk1 : (k : Int) < (n1d : Int) := by omega
          have bk2 : (k : Int) < (n1c : Int) := by have := HRL.out; omega
          have hnk : k < n1c := by omega
          have hwk : IntKind.i64.wrap ((k : Int) + 1) = (k : Int) + 1 := IntWalk.i64_in _ (by omega)
          have c0 := box_at (HZ1.out.cell (i := 0) rfl) hbr
          have c1 := box_at (HZ1.out.cell (i := 1) rfl) hbr
          have c2 := box_at (HZ1.out.cell (i := 2) rfl) hbr
          have d0 := box_at (HZ2.out.cell (i := 0) rfl) hbr
          have d1 := box_at (HZ2.out.cell (i := 1) rfl) hbr
          have HBR := Lib.hid hbr
          clear hbr
          have hc : Below wr.heap.size wr wr := Below.refl _ _
          go_wp2_with fail
          try (go_wp2_with fail)
          refine wp_region_noPanic ?_
          refine wp_region_P (fun w' => w'.cell? ⟨u1.heap.size, 0, none⟩ = some (.int .i64 P1a) ∧ w'.cell? ⟨u1.heap.size, 1, none⟩ = some (.int .i64 Q1a) ∧ w'.cell? ⟨u1.heap.size, 2, none⟩ = some (.int .i64 G1a) ∧ w'.cell? ⟨u1.heap.size + 1, 0, none⟩ = some (.int .i64 h1b) ∧ w'.cell? ⟨u1.heap.size + 1, 1, none⟩ = some (.slice a1b n1b c1b) ∧ w'.cell? ⟨rb, ro + k, none⟩ = some (.int .i64 y)) 15 [(0, []), (1, []), (2, []), (3, []), (4, []), (5, [1, 0]), (6, [0]), (7, [6, 5, 4, 0]), (8, [0]), (9, [0]), (10, [1]), (11, [1]), (12, [1])] [] (by kernel_rfl) (by kernel_rfl) (by kernel_rfl) rfl (fun _ _ _ _ h => h) (fun w' h => ⟨box_at c0 h, box_at c1 h, box_at c2 h, box_at d0 h, box_at d1 h, box_at yr h⟩) ?_
          simp only [pickP, pickN, List.getElem?_cons_zero, List.getElem?_cons_succ]
          iterate 7 (refine' chainP_read _ rfl rfl (fun w' hS' => ?_) ?_; rotate_left; · (simp only [lookP, allP, Act.put, List.getElem?_cons_zero, List.getElem?_cons_succ, List.setIfInBounds_toArray, List.set_cons_zero, List.set_cons_succ]; (try dsimp only at hS'); go_simp; (try with_reducible rfl)))
          -- 7: call { callee := value (func 50), args := #[t78, t79, t80, t84], argTypes := #[39, 79, 3, 3] }
          refine chainP_call (d := (some 85)) (.tuple #[.int .i64 z, .bool true]) rfl rfl (fun w' hS' => ?_) ?_
          · simp only [lookP, allP, Act.put, List.getElem?_cons_zero, List.getElem?_cons_succ, List.setIfInBounds_toArray, List.set_cons_zero, List.set_cons_succ]
            intro K hK
            go_simp
            go_at_call 50
            refine (spec_Commit ⟨P1a, Q1a, G1a⟩ h1b _ l1b x y _ (HLB.out.below hS'.1) ⟨by omega, by omega⟩ HXI.out HYI.out).mono ?_
            rintro e u ⟨rfl, hq⟩
            rw [HZB.out, HZ0.out]
            exact hK.out _ hq
          iterate 5 (refine' chainP_read _ rfl rfl (fun w' hS' => ?_) ?_; rotate_left; · (simp only [lookP, allP, Act.put, List.getElem?_cons_zero, List.getElem?_cons_succ, List.setIfInBounds_toArray, List.set_cons_zero, List.set_cons_succ]; (try dsimp only at hS'); go_simp; (try with_reducible rfl)))
          refine chainP_nil (fun ua hS' => ?_)
          simp only [allP, Act.put, List.setIfInBounds_toArray, List.set_cons_zero, List.set_cons_succ]
          have hq1 := hS'.1
          clear hS'
          replace hc := Below.next hc hq1
          replace c0 := box_at c0 hq1
          replace c1 := box_at c1 hq1
          replace c2 := box_at c2 hq1
          replace d0 := box_at d0 hq1
          replace d1 := box_at d1 hq1
          replace yr := box_at yr hq1
          clear hq1
          clear d0 d1 yr
          have HO5 := Lib.hid (HOW.out.below hc)
          have hs5 : u7.heap.size ≤ ua.heap.size := Nat.le_trans HBR.out.size hc.size
          have hlg : u1.heap.size < ua.heap.size := World.block_lt_of_cell? _ _ c1
          have HC1 := Lib.hid c1
          clear c0 c2
          go_wp2_with fail
          try (refine NoPanic.normal ?_)
          go_wp2_with (at_builtin; refine wpList_append_ints rfl _ _ rfl u7.heap.size _ _ (ZL.take k) [z] rfl (HO5.out.alloc _) rfl (Ints.lit1 _ HZI.out) (by rw [HLK.out]; simp; omega) (by simp; omega) ?_; intro v8 w8 hown8 hgr8; have hb8 : Below u7.heap.size ua w8 := ((Below.refl u7.heap.size ua).alloc hs5 _).trans ((HO5.out.alloc _).grown hgr8 (by simp; omega)); have g1 : w8.cell? ⟨u1.heap.size, 1, none⟩ = some (.int .i64 Q1a) := Below.cell' hb8 (by have := HZ1.out.lt; omega) HC1.out; have HB8 := Lib.hid hb8; have HO8 := Lib.hid hown8; clear c1 hb8 hown8 hgr8)
          try (go_wp2_with fail)
          go_roundg (n1d - (k + 1))
          case measure => omega
          case rel => exact ⟨k + 1, by omega, by go_num, by rw [HSS.out], by unfold Hid; rw [HZT.out]; exact HO8.out, (HBR.out.trans (hc.mono HBR.out.size)).trans HB8.out⟩
        · obtain rfl : n1d = k := by omega
          have HTA : Hid (l1d.take n1d = l1d) := List.take_of_length_le (by rw [HE1d.out]; exact Nat.le_refl _)
          have HTZ : Hid (ZL.take n1d = ZL) := List.take_of_length_le (by rw [HZL.out]; exact Nat.le_refl _)
          rw [HTA.out] at hs0 hs1 ⊢
          rw [HTZ.out] at HOW
          have HLZ := Lib.hid HOW.out.ints
          have HEZ : Hid (ZL.length = n1d) := HZL.out
          clear HOW
          replace HB := Lib.hid (Below.next HB.out hbr)
          replace HCB := Lib.hid (Below.next HCB.out hbr)
          replace HZ1 := Lib.hid (HZ1.out.below hbr)
          replace HZ2 := Lib.hid (HZ2.out.below hbr)
          replace HZ3 := Lib.hid (HZ3.out.below hbr)
          replace HZ4 := Lib.hid (HZ4.out.below hbr)
          replace HL1b := Lib.hid (HL1b.out.below hbr)
          replace HL1c := Lib.hid (HL1c.out.below hbr)
          replace HL1d := Lib.hid (HL1d.out.below hbr)
          replace HL1e := Lib.hid (HL1e.out.below hbr)
          replace HL3a := Lib.hid (HL3a.out.below hbr)
          replace HL3b := Lib.hid (HL3b.out.below hbr)
          replace HL3c := Lib.hid (HL3c.out.below hbr)
          replace HL5a := Lib.hid (HL5a.out.below hbr)
          replace HL5b := Lib.hid (HL5b.out.below hbr)
          replace HL5c := Lib.hid (HL5c.out.below hbr)
          clear hbr
          have z_0_0 := HZ1.out.cell (i := 0) rfl
          have z_0_1 := HZ1.out.cell (i := 1) rfl
          have z_0_2 := HZ1.out.cell (i := 2) rfl
          have z_1_0 := HZ2.out.cell (i := 0) rfl
          have z_1_1 := HZ2.out.cell (i := 1) rfl
          have z_2_0 := HZ3.out.cell (i := 0) rfl
          have z_2_1 := HZ3.out.cell (i := 1) rfl
          have z_2_2 := HZ3.out.cell (i := 2) rfl
          have z_3_0 := HZ4.out.cell (i := 0) rfl
          have z_3_1 := HZ4.out.cell (i := 1) rfl
          have z_3_2 := HZ4.out.cell (i := 2) rfl
          try (go_wp2_with fail)
          clear z_0_0 z_0_1 z_0_2 z_1_0 z_1_1 z_2_0 z_2_1 z_2_2 z_3_0 z_3_1 z_3_2
          refine (impl_VerifySum ⟨P1a, Q1a, G1a⟩ h1b _ l1b _ ZL (sumM Q1a l1d) _ D3 _ HL1b.out HLZ.out ⟨by omega, by omega⟩ HSI.out (PfR.mk HL3a.out HL3b.out HL3c.out)).mono ?_
          rintro e u8 ⟨rfl, hb⟩
          rw [HT2.out.1, HT2.out.2]
          replace HB := Lib.hid (Below.next HB.out hb)
          replace HCB := Lib.hid (Below.next HCB.out hb)
          replace HZ1 := Lib.hid (HZ1.out.below hb)
          replace HZ2 := Lib.hid (HZ2.out.below hb)
          replace HZ3 := Lib.hid (HZ3.out.below hb)
          replace HZ4 := Lib.hid (HZ4.out.below hb)
          replace HL1b := Lib.hid (HL1b.out.below hb)
          replace HL1c := Lib.hid (HL1c.out.below hb)
          replace HL1d := Lib.hid (HL1d.out.below hb)
          replace HL1e := Lib.hid (HL1e.out.below hb)
          replace HL3a := Lib.hid (HL3a.out.below hb)
          replace HL3b := Lib.hid (HL3b.out.below hb)
          replace HL3c := Lib.hid (HL3c.out.below hb)
          replace HL5a := Lib.hid (HL5a.out.below hb)
          replace HL5b := Lib.hid (HL5b.out.below hb)
          replace HL5c := Lib.hid (HL5c.out.below hb)
          replace HLZ := Lib.hid (HLZ.out.below hb)
          clear hb
          have z_0_0 := HZ1.out.cell (i := 0) rfl
          have z_0_1 := HZ1.out.cell (i := 1) rfl
          have z_0_2 := HZ1.out.cell (i := 2) rfl
          have z_1_0 := HZ2.out.cell (i := 0) rfl
          have z_1_1 := HZ2.out.cell (i := 1) rfl
          have z_2_0 := HZ3.out.cell (i := 0) rfl
          have z_2_1 := HZ3.out.cell (i := 1) rfl
          have z_2_2 := HZ3.out.cell (i := 2) rfl
          have z_3_0 := HZ4.out.cell (i := 0) rfl
          have z_3_1 := HZ4.out.cell (i := 1) rfl
          have z_3_2 := HZ4.out.cell (i := 2) rfl
          try (go_wp2_with fail)
          clear z_0_0 z_0_1 z_0_2 z_1_0 z_1_1 z_2_0 z_2_1 z_2_2 z_3_0 z_3_1 z_3_2
          go_meet
          exact HCB
  case rest =>
    have hct := hcut.out
    clear hcut
    replace HB := Lib.hid (Below.next HB.out hct)
    replace HZ1 := Lib.hid (HZ1.out.below hct)
    replace HZ2 := Lib.hid (HZ2.out.below hct)
    replace HZ3 := Lib.hid (HZ3.out.below hct)
    replace HZ4 := Lib.hid (HZ4.out.below hct)
    replace HL1b := Lib.hid (HL1b.out.below hct)
    replace HL1c := Lib.hid (HL1c.out.below hct)
    replace HL1d := Lib.hid (HL1d.out.below hct)
    replace HL1e := Lib.hid (HL1e.out.below hct)
    replace HL3a := Lib.hid (HL3a.out.below hct)
    replace HL3b := Lib.hid (HL3b.out.below hct)
    replace HL3c := Lib.hid (HL3c.out.below hct)
    replace HL5a := Lib.hid (HL5a.out.below hct)
    replace HL5b := Lib.hid (HL5b.out.below hct)
    replace HL5c := Lib.hid (HL5c.out.below hct)
    clear hct
    have z_0_0 := HZ1.out.cell (i := 0) rfl
    have z_0_1 := HZ1.out.cell (i := 1) rfl
    have z_0_2 := HZ1.out.cell (i := 2) rfl
    have z_1_0 := HZ2.out.cell (i := 0) rfl
    have z_1_1 := HZ2.out.cell (i := 1) rfl
    have z_2_0 := HZ3.out.cell (i := 0) rfl
    have z_2_1 := HZ3.out.cell (i := 1) rfl
    have z_2_2 := HZ3.out.cell (i := 2) rfl
    have z_3_0 := HZ4.out.cell (i := 0) rfl
    have z_3_1 := HZ4.out.cell (i := 1) rfl
    have z_3_2 := HZ4.out.cell (i := 2) rfl
    try (go_wp2_with fail)
    clear z_0_0 z_0_1 z_0_2 z_1_0 z_1_1 z_2_0 z_2_1 z_2_2 z_3_0 z_3_1 z_3_2
    refine (spec_DrawVerifySum _ _ (H2.out.below HB.out)).mono ?_
    rintro e u8 ⟨⟨P8a, Q8a, G8a, h8b, v8b, l8b, v8c, l8c, x8d, v8ea, v8eb, v8ec, l8ea, l8eb, l8ec, rfl, hgr8a, ⟨⟨h8bl, h8bu⟩, hs8b, hl8b⟩, ⟨hs8c, hl8c⟩, ⟨x8dl, x8du⟩, ⟨hs8ea, hl8ea⟩, ⟨hs8eb, hl8eb⟩, ⟨hs8ec, hl8ec⟩⟩, hb⟩
    clear hgr8a
    have HL8b := Lib.hid hs8b
    obtain ⟨a8b, n8b, c8b, rfl⟩ := hs8b.shape
    have HE8b := Lib.hid hs8b.len
    clear hs8b
    have HL8c := Lib.hid hs8c
    obtain ⟨a8c, n8c, c8c, rfl⟩ := hs8c.shape
    have HE8c := Lib.hid hs8c.len
    clear hs8c
    have HL8ea := Lib.hid hs8ea
    obtain ⟨a8ea, n8ea, c8ea, rfl⟩ := hs8ea.shape
    have HE8ea := Lib.hid hs8ea.len
    clear hs8ea
    have HL8eb := Lib.hid hs8eb
    obtain ⟨a8eb, n8eb, c8eb, rfl⟩ := hs8eb.shape
    have HE8eb := Lib.hid hs8eb.len
    clear hs8eb
    have HL8ec := Lib.hid hs8ec
    obtain ⟨a8ec, n8ec, c8ec, rfl⟩ := hs8ec.shape
    have HE8ec := Lib.hid hs8ec.len
    clear hs8ec
    replace HB := Lib.hid (Below.next HB.out hb)
    replace HZ1 := Lib.hid (HZ1.out.below hb)
    replace HZ2 := Lib.hid (HZ2.out.below hb)
    replace HZ3 := Lib.hid (HZ3.out.below hb)
    replace HZ4 := Lib.hid (HZ4.out.below hb)
    replace HL1b := Lib.hid (HL1b.out.below hb)
    replace HL1c := Lib.hid (HL1c.out.below hb)
    replace HL1d := Lib.hid (HL1d.out.below hb)
    replace HL1e := Lib.hid (HL1e.out.below hb)
    replace HL3a := Lib.hid (HL3a.out.below hb)
    replace HL3b := Lib.hid (HL3b.out.below hb)
    replace HL3c := Lib.hid (HL3c.out.below hb)
    replace HL5a := Lib.hid (HL5a.out.below hb)
    replace HL5b := Lib.hid (HL5b.out.below hb)
    replace HL5c := Lib.hid (HL5c.out.below hb)
    clear hb
    have z_0_0 := HZ1.out.cell (i := 0) rfl
    have z_0_1 := HZ1.out.cell (i := 1) rfl
    have z_0_2 := HZ1.out.cell (i := 2) rfl
    have z_1_0 := HZ2.out.cell (i := 0) rfl
    have z_1_1 := HZ2.out.cell (i := 1) rfl
    have z_2_0 := HZ3.out.cell (i := 0) rfl
    have z_2_1 := HZ3.out.cell (i := 1) rfl
    have z_2_2 := HZ3.out.cell (i := 2) rfl
    have z_3_0 := HZ4.out.cell (i := 0) rfl
    have z_3_1 := HZ4.out.cell (i := 1) rfl
    have z_3_2 := HZ4.out.cell (i := 2) rfl
    have lt_HZ1 := HZ1.out.lt
    have lt_HZ2 := HZ2.out.lt
    have lt_HZ3 := HZ3.out.lt
    have lt_HZ4 := HZ4.out.lt
    obtain ⟨V9, hV⟩ : ∃ V, V = ((u8.alloc (.cells #[.int .i64 P8a, .int .i64 Q8a, .int .i64 G8a] 39)).alloc (.cells #[.int .i64 h8b, .slice a8b n8b c8b] 79)).alloc (.cells #[.slice a8ea n8ea c8ea, .slice a8eb n8eb c8eb, .slice a8ec n8ec c8ec] 42) := ⟨_, rfl⟩
    have hbV : Below u8.heap.size u8 V9 := by rw [hV]; (repeat (first | exact Below.refl _ _ | assumption | refine Below.drew ?_ | refine Below.alloc ?_ (by first | (simp; done) | (simp; omega)) _ | refine Below.setCell ?_ (by first | (simp; done) | (simp; omega)) _))
    have HZ5 : Hid (BoxN V9 u8.heap.size 39 [.int .i64 P8a, .int .i64 Q8a, .int .i64 G8a]) := by unfold Hid; rw [hV]; have h := (((BoxN.new u8 [.int .i64 P8a, .int .i64 Q8a, .int .i64 G8a] 39).alloc (.cells #[.int .i64 h8b, .slice a8b n8b c8b] 79)).alloc (.cells #[.slice a8ea n8ea c8ea, .slice a8eb n8eb c8eb, .slice a8ec n8ec c8ec] 42)); simpa using h
    have HZ6 : Hid (BoxN V9 (u8.heap.size + 1) 79 [.int .i64 h8b, .slice a8b n8b c8b]) := by unfold Hid; rw [hV]; have h := ((BoxN.new (u8.alloc (.cells #[.int .i64 P8a, .int .i64 Q8a, .int .i64 G8a] 39)) [.int .i64 h8b, .slice a8b n8b c8b] 79).alloc (.cells #[.slice a8ea n8ea c8ea, .slice a8eb n8eb c8eb, .slice a8ec n8ec c8ec] 42)); simpa using h
    have HZ7 : Hid (BoxN V9 (u8.heap.size + 1 + 1) 42 [.slice a8ea n8ea c8ea, .slice a8eb n8eb c8eb, .slice a8ec n8ec c8ec]) := by unfold Hid; rw [hV]; have h := (BoxN.new ((u8.alloc (.cells #[.int .i64 P8a, .int .i64 Q8a, .int .i64 G8a] 39)).alloc (.cells #[.int .i64 h8b, .slice a8b n8b c8b] 79)) [.slice a8ea n8ea c8ea, .slice a8eb n8eb c8eb, .slice a8ec n8ec c8ec] 42); simpa using h
    try (go_wp2_with fail)
    rw [← hV]
    clear hV
    clear lt_HZ1
    clear lt_HZ2
    clear lt_HZ3
    clear lt_HZ4
    clear z_0_0 z_0_1 z_0_2 z_1_0 z_1_1 z_2_0 z_2_1 z_2_2 z_3_0 z_3_1 z_3_2
    replace HB := Lib.hid (Below.next HB.out hbV)
    replace HZ1 := Lib.hid (HZ1.out.below hbV)
    replace HZ2 := Lib.hid (HZ2.out.below hbV)
    replace HZ3 := Lib.hid (HZ3.out.below hbV)
    replace HZ4 := Lib.hid (HZ4.out.below hbV)
    replace HL1b := Lib.hid (HL1b.out.below hbV)
    replace HL1c := Lib.hid (HL1c.out.below hbV)
    replace HL1d := Lib.hid (HL1d.out.below hbV)
    replace HL1e := Lib.hid (HL1e.out.below hbV)
    replace HL3a := Lib.hid (HL3a.out.below hbV)
    replace HL3b := Lib.hid (HL3b.out.below hbV)
    replace HL3c := Lib.hid (HL3c.out.below hbV)
    replace HL5a := Lib.hid (HL5a.out.below hbV)
    replace HL5b := Lib.hid (HL5b.out.below hbV)
    replace HL5c := Lib.hid (HL5c.out.below hbV)
    replace HL8b := Lib.hid (HL8b.out.below hbV)
    replace HL8c := Lib.hid (HL8c.out.below hbV)
    replace HL8ea := Lib.hid (HL8ea.out.below hbV)
    replace HL8eb := Lib.hid (HL8eb.out.below hbV)
    replace HL8ec := Lib.hid (HL8ec.out.below hbV)
    clear hbV
    have z_0_0 := HZ1.out.cell (i := 0) rfl
    have z_0_1 := HZ1.out.cell (i := 1) rfl
    have z_0_2 := HZ1.out.cell (i := 2) rfl
    have z_1_0 := HZ2.out.cell (i := 0) rfl
    have z_1_1 := HZ2.out.cell (i := 1) rfl
    have z_2_0 := HZ3.out.cell (i := 0) rfl
    have z_2_1 := HZ3.out.cell (i := 1) rfl
    have z_2_2 := HZ3.out.cell (i := 2) rfl
    have z_3_0 := HZ4.out.cell (i := 0) rfl
    have z_3_1 := HZ4.out.cell (i := 1) rfl
    have z_3_2 := HZ4.out.cell (i := 2) rfl
    have z_4_0 := HZ5.out.cell (i := 0) rfl
    have z_4_1 := HZ5.out.cell (i := 1) rfl
    have z_4_2 := HZ5.out.cell (i := 2) rfl
    have z_5_0 := HZ6.out.cell (i := 0) rfl
    have z_5_1 := HZ6.out.cell (i := 1) rfl
    have z_6_0 := HZ7.out.cell (i := 0) rfl
    have z_6_1 := HZ7.out.cell (i := 1) rfl
    have z_6_2 := HZ7.out.cell (i := 2) rfl
    try (go_wp2_with fail)
    clear z_0_0 z_0_1 z_0_2 z_1_0 z_1_1 z_2_0 z_2_1 z_2_2 z_3_0 z_3_1 z_3_2 z_4_0 z_4_1 z_4_2 z_5_0 z_5_1 z_6_0 z_6_1 z_6_2
    refine (impl_VerifySum ⟨P8a, Q8a, G8a⟩ h8b _ l8b _ l8c x8d _ ⟨l8ea, l8eb, l8ec⟩ _ HL8b.out HL8c.out ⟨by omega, by omega⟩ ⟨by omega, by omega⟩ (PfR.mk HL8ea.out HL8eb.out HL8ec.out)).mono ?_
    rintro e u10 ⟨rfl, hb⟩
    obtain ⟨q10a, hq10a⟩ : ∃ r, vsR ⟨P8a, Q8a, G8a⟩ sSum h8b l8b l8c x8d ⟨l8ea, l8eb, l8ec⟩ = r := ⟨_, rfl⟩
    have Hq10a := Lib.hid hq10a
    rw [hq10a]
    clear hq10a
    obtain ⟨q10b, hq10b⟩ : ∃ r, vsA ⟨P8a, Q8a, G8a⟩ h8b l8b l8c x8d = r := ⟨_, rfl⟩
    have Hq10b := Lib.hid hq10b
    rw [hq10b]
    clear hq10b
    replace HB := Lib.hid (Below.next HB.out hb)
    replace HZ1 := Lib.hid (HZ1.out.below hb)
    replace HZ2 := Lib.hid (HZ2.out.below hb)
    replace HZ3 := Lib.hid (HZ3.out.below hb)
    replace HZ4 := Lib.hid (HZ4.out.below hb)
    replace HZ5 := Lib.hid (HZ5.out.below hb)
    replace HZ6 := Lib.hid (HZ6.out.below hb)
    replace HZ7 := Lib.hid (HZ7.out.below hb)
    replace HL1b := Lib.hid (HL1b.out.below hb)
    replace HL1c := Lib.hid (HL1c.out.below hb)
    replace HL1d := Lib.hid (HL1d.out.below hb)
    replace HL1e := Lib.hid (HL1e.out.below hb)
    replace HL3a := Lib.hid (HL3a.out.below hb)
    replace HL3b := Lib.hid (HL3b.out.below hb)
    replace HL3c := Lib.hid (HL3c.out.below hb)
    replace HL5a := Lib.hid (HL5a.out.below hb)
    replace HL5b := Lib.hid (HL5b.out.below hb)
    replace HL5c := Lib.hid (HL5c.out.below hb)
    replace HL8b := Lib.hid (HL8b.out.below hb)
    replace HL8c := Lib.hid (HL8c.out.below hb)
    replace HL8ea := Lib.hid (HL8ea.out.below hb)
    replace HL8eb := Lib.hid (HL8eb.out.below hb)
    replace HL8ec := Lib.hid (HL8ec.out.below hb)
    clear hb
    have z_0_0 := HZ1.out.cell (i := 0) rfl
    have z_0_1 := HZ1.out.cell (i := 1) rfl
    have z_0_2 := HZ1.out.cell (i := 2) rfl
    have z_1_0 := HZ2.out.cell (i := 0) rfl
    have z_1_1 := HZ2.out.cell (i := 1) rfl
    have z_2_0 := HZ3.out.cell (i := 0) rfl
    have z_2_1 := HZ3.out.cell (i := 1) rfl
    have z_2_2 := HZ3.out.cell (i := 2) rfl
    have z_3_0 := HZ4.out.cell (i := 0) rfl
    have z_3_1 := HZ4.out.cell (i := 1) rfl
    have z_3_2 := HZ4.out.cell (i := 2) rfl
    have z_4_0 := HZ5.out.cell (i := 0) rfl
    have z_4_1 := HZ5.out.cell (i := 1) rfl
    have z_4_2 := HZ5.out.cell (i := 2) rfl
    have z_5_0 := HZ6.out.cell (i := 0) rfl
    have z_5_1 := HZ6.out.cell (i := 1) rfl
    have z_6_0 := HZ7.out.cell (i := 0) rfl
    have z_6_1 := HZ7.out.cell (i := 1) rfl
    have z_6_2 := HZ7.out.cell (i := 2) rfl
    try (go_wp2_with fail)
    clear z_0_0 z_0_1 z_0_2 z_1_0 z_1_1 z_2_0 z_2_1 z_2_2 z_3_0 z_3_1 z_3_2 z_4_0 z_4_1 z_4_2 z_5_0 z_5_1 z_6_0 z_6_1 z_6_2
    refine (spec_VerifySum ⟨P8a, Q8a, G8a⟩ h8b _ l8b _ l8c x8d _ ⟨l8ea, l8eb, l8ec⟩ _ HL8b.out HL8c.out ⟨by omega, by omega⟩ ⟨by omega, by omega⟩ (PfR.mk HL8ea.out HL8eb.out HL8ec.out)).mono ?_
    rintro e u11 ⟨rfl, hb⟩
    rw [Hq10a.out]
    rw [Hq10b.out]
    replace HB := Lib.hid (Below.next HB.out hb)
    replace HZ1 := Lib.hid (HZ1.out.below hb)
    replace HZ2 := Lib.hid (HZ2.out.below hb)
    replace HZ3 := Lib.hid (HZ3.out.below hb)
    replace HZ4 := Lib.hid (HZ4.out.below hb)
    replace HZ5 := Lib.hid (HZ5.out.below hb)
    replace HZ6 := Lib.hid (HZ6.out.below hb)
    replace HZ7 := Lib.hid (HZ7.out.below hb)
    replace HL1b := Lib.hid (HL1b.out.below hb)
    replace HL1c := Lib.hid (HL1c.out.below hb)
    replace HL1d := Lib.hid (HL1d.out.below hb)
    replace HL1e := Lib.hid (HL1e.out.below hb)
    replace HL3a := Lib.hid (HL3a.out.below hb)
    replace HL3b := Lib.hid (HL3b.out.below hb)
    replace HL3c := Lib.hid (HL3c.out.below hb)
    replace HL5a := Lib.hid (HL5a.out.below hb)
    replace HL5b := Lib.hid (HL5b.out.below hb)
    replace HL5c := Lib.hid (HL5c.out.below hb)
    replace HL8b := Lib.hid (HL8b.out.below hb)
    replace HL8c := Lib.hid (HL8c.out.below hb)
    replace HL8ea := Lib.hid (HL8ea.out.below hb)
    replace HL8eb := Lib.hid (HL8eb.out.below hb)
    replace HL8ec := Lib.hid (HL8ec.out.below hb)
    clear hb
    have eq_q10b : (q10b == q10b) = true := by simp
    have eq_q10a : (q10a == q10a) = true := by simp
    have z_0_0 := HZ1.out.cell (i := 0) rfl
    have z_0_1 := HZ1.out.cell (i := 1) rfl
    have z_0_2 := HZ1.out.cell (i := 2) rfl
    have z_1_0 := HZ2.out.cell (i := 0) rfl
    have z_1_1 := HZ2.out.cell (i := 1) rfl
    have z_2_0 := HZ3.out.cell (i := 0) rfl
    have z_2_1 := HZ3.out.cell (i := 1) rfl
    have z_2_2 := HZ3.out.cell (i := 2) rfl
    have z_3_0 := HZ4.out.cell (i := 0) rfl
    have z_3_1 := HZ4.out.cell (i := 1) rfl
    have z_3_2 := HZ4.out.cell (i := 2) rfl
    have z_4_0 := HZ5.out.cell (i := 0) rfl
    have z_4_1 := HZ5.out.cell (i := 1) rfl
    have z_4_2 := HZ5.out.cell (i := 2) rfl
    have z_5_0 := HZ6.out.cell (i := 0) rfl
    have z_5_1 := HZ6.out.cell (i := 1) rfl
    have z_6_0 := HZ7.out.cell (i := 0) rfl
    have z_6_1 := HZ7.out.cell (i := 1) rfl
    have z_6_2 := HZ7.out.cell (i := 2) rfl
    try (go_wp2_with fail)
    clear z_0_0 z_0_1 z_0_2 z_1_0 z_1_1 z_2_0 z_2_1 z_2_2 z_3_0 z_3_1 z_3_2 z_4_0 z_4_1 z_4_2 z_5_0 z_5_1 z_6_0 z_6_1 z_6_2
    go_ret
    exact ⟨rfl, HB.out⟩
end Go.Proofs.Ytboahnklilmdpaa
