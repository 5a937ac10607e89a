/- The walk of FnOneOfExtraction (printed by gen_lawext.py). -/
import Derived.Test.YtegomgnlhcbmfaaDrOne3W
import Derived.Test.YtegomgnlhcbmfaaOne3W
import Derived.Test.YtegomgnlhcbmfaaKEqualLogW
import Derived.Test.YtegomgnlhcbmfaaBaW
import Derived.WalkKit
import Derived.ProofKit
import Derived.OpenShut
import Derived.JoinedCond
import Derived.Lib.SmallJoins
import Derived.Deep.Fields
import Derived.Test.YtegomgnlhcbmfaaBgW
import Derived.Test.YtegomgnlhcbmfaaDrG0W
namespace Go.Proofs.Ytegomgnlhcbmfaa
open Go.RowKit
set_option linter.unusedSimpArgs false
set_option linter.unusedVariables false

/-- what the law asks of an extracted exponent -/
theorem ext_tail {gr : GroupD} {l : List EqualLogD} {d f : ProofD} (h : (xeO gr l d f).isSome = true) :
    ∃ k, ∃ hk : k < l.length, xeI (xeO gr l d f) = (k : Int) ∧ itR gr (l[k]'hk) (xeX gr d f (xeO gr l d f)) = true ∧ itB gr (l[k]'hk) (xeX gr d f (xeO gr l d f)) = true := by
  unfold xeO at h ⊢
  split
  · rename_i hc
    rw [if_pos hc] at h
    simp only [Bool.and_eq_true] at hc
    obtain ⟨h1, h2, h3⟩ := hc
    have hg := goodG_ok h1
    obtain ⟨i, hi⟩ := Option.isSome_iff_exists.1 h
    have hi' := hi
    unfold exF at hi'
    have hp := List.find?_some hi'
    have hlt := List.mem_range.1 (List.mem_of_find?_eq_some hi')
    have hne : nth d.h i ≠ nth f.h i := by simpa using hp
    have hT := ex_right hg h2 h3 hlt hne
    have e1 : eqAt l i = l[i] := by simp [eqAt, List.getD, hlt]
    have hE : eqEl gr l[i] = true := by
      unfold stB at h2
      rw [Bool.and_eq_true] at h2
      exact List.all_eq_true.1 h2.2 _ (List.getElem_mem hlt)
    have hq := hg.q1
    have hX : expB gr (exX gr.q (nth d.h i) (nth d.r i) (nth f.h i) (nth f.r i)) = true := by
      unfold expB exX
      rw [decide_eq_true_iff]
      exact ⟨Int.emod_nonneg _ (by omega), by have := Int.emod_lt_of_pos ((nth d.r i - nth f.r i) % gr.q * invQ ((nth d.h i - nth f.h i) % gr.q) gr.q) (show 0 < gr.q by omega); omega⟩
    have hB : itB gr l[i] (xeX gr d f (exF d f l.length)) = true := by
      rw [hi]; unfold itB xeX; rw [h1, hE]; simpa using hX
    refine ⟨i, hlt, by rw [hi]; rfl, ?_, hB⟩
    unfold itR
    rw [hB, hi]
    rw [e1] at hT
    simpa [xeX] using hT
  · rename_i hc
    rw [if_neg hc] at h
    simp at h
theorem itB_small {gr : GroupD} {d : EqualLogD} {s : Int} (h : itB gr d s = true) : ((I64 d.g1 ∧ I64 d.y1) ∧ (I64 d.g2 ∧ I64 d.y2)) ∧ I64 s := by
  unfold itB at h
  simp only [Bool.and_eq_true] at h
  obtain ⟨h1, h2, h3⟩ := h
  have hg := goodG_ok h1
  obtain ⟨e1, e2, e3, e4⟩ := eqEl_small hg h2
  exact ⟨⟨⟨small_64 e1, small_64 e2⟩, ⟨small_64 e3, small_64 e4⟩⟩, small_64 (expB_small hg h3)⟩
set_option maxRecDepth 100000 in
set_option maxHeartbeats 8000000 in
theorem law_OneOfExtraction (va vb : Value) (w : World) (h1 : Bytes w va) (h2 : Bytes w vb) :
    Calls Try.prog 5 #[va, vb] w fun e w' => e = .returned (.bool true) ∧ Below w.heap.size w w' := by
  obtain ⟨a, m, c, rfl, k1, k2, hv⟩ := h1
  obtain ⟨a', m', c', rfl, k3, k4, hv'⟩ := h2
  have H1 : Hid (Bytes w (.slice a m c)) := ⟨a, m, c, rfl, k1, k2, hv⟩
  have H2 : Hid (Bytes w (.slice a' m' c')) := ⟨a', m', c', rfl, k3, k4, hv'⟩
  clear hv hv'
  unfold maxLen at k2 k4
  by_cases hbig : (1048576 : Int) < wrap64 ((m : Int) + (m' : Int))
  · go_enter Try.func5, Try.ntmps5
    go_wp2_with fail
    go_ret
    exact ⟨rfl, Below.refl _ _⟩
  have HB : Hid (Below w.heap.size w w) := Below.refl _ _
  go_enter Try.func5, Try.ntmps5
  go_wp2_with fail
  try (go_wp2_with fail)
  refine (spec_DrawExtractOneOf _ _ (H1.out.below HB.out)).mono ?_
  rintro e u1 ⟨⟨P1a, Q1a, G1a, v1b, l1b, v1ca, v1cb, v1cc, l1ca, l1cb, l1cc, v1da, v1db, v1dc, l1da, l1db, l1dc, rfl, hgr1a, ⟨hs1b, hl1b⟩, ⟨hs1ca, hl1ca⟩, ⟨hs1cb, hl1cb⟩, ⟨hs1cc, hl1cc⟩, ⟨hs1da, hl1da⟩, ⟨hs1db, hl1db⟩, ⟨hs1dc, hl1dc⟩⟩, hb⟩
  clear hgr1a
  have HL1b := Lib.hid hs1b
  obtain ⟨a1b, n1b, c1b, rfl⟩ := hs1b.shape
  have HE1b := Lib.hid hs1b.len
  clear hs1b
  have HL1ca := Lib.hid hs1ca
  obtain ⟨a1ca, n1ca, c1ca, rfl⟩ := hs1ca.shape
  have HE1ca := Lib.hid hs1ca.len
  clear hs1ca
  have HL1cb := Lib.hid hs1cb
  obtain ⟨a1cb, n1cb, c1cb, rfl⟩ := hs1cb.shape
  have HE1cb := Lib.hid hs1cb.len
  clear hs1cb
  have HL1cc := Lib.hid hs1cc
  obtain ⟨a1cc, n1cc, c1cc, rfl⟩ := hs1cc.shape
  have HE1cc := Lib.hid hs1cc.len
  clear hs1cc
  have HL1da := Lib.hid hs1da
  obtain ⟨a1da, n1da, c1da, rfl⟩ := hs1da.shape
  have HE1da := Lib.hid hs1da.len
  clear hs1da
  have HL1db := Lib.hid hs1db
  obtain ⟨a1db, n1db, c1db, rfl⟩ := hs1db.shape
  have HE1db := Lib.hid hs1db.len
  clear hs1db
  have HL1dc := Lib.hid hs1dc
  obtain ⟨a1dc, n1dc, c1dc, rfl⟩ := hs1dc.shape
  have HE1dc := Lib.hid hs1dc.len
  clear hs1dc
  replace HB := Lib.hid (Below.next HB.out hb)
  clear hb
  obtain ⟨V2, hV⟩ : ∃ V, V = ((u1.alloc (.cells #[.int .i64 P1a, .int .i64 Q1a, .int .i64 G1a] 24)).alloc (.cells #[.slice a1ca n1ca c1ca, .slice a1cb n1cb c1cb, .slice a1cc n1cc c1cc] 47)).alloc (.cells #[.slice a1da n1da c1da, .slice a1db n1db c1db, .slice a1dc n1dc c1dc] 47) := ⟨_, rfl⟩
  have hbV : Below u1.heap.size u1 V2 := by rw [hV]; (repeat (first | exact Below.refl _ _ | assumption | refine Below.drew ?_ | refine Below.alloc ?_ (by first | (simp; done) | (simp; omega)) _ | refine Below.setCell ?_ (by first | (simp; done) | (simp; omega)) _))
  have HZ1 : Hid (BoxN V2 u1.heap.size 24 [.int .i64 P1a, .int .i64 Q1a, .int .i64 G1a]) := by unfold Hid; rw [hV]; have h := (((BoxN.new u1 [.int .i64 P1a, .int .i64 Q1a, .int .i64 G1a] 24).alloc (.cells #[.slice a1ca n1ca c1ca, .slice a1cb n1cb c1cb, .slice a1cc n1cc c1cc] 47)).alloc (.cells #[.slice a1da n1da c1da, .slice a1db n1db c1db, .slice a1dc n1dc c1dc] 47)); simpa using h
  have HZ2 : Hid (BoxN V2 (u1.heap.size + 1) 47 [.slice a1ca n1ca c1ca, .slice a1cb n1cb c1cb, .slice a1cc n1cc c1cc]) := by unfold Hid; rw [hV]; have h := ((BoxN.new (u1.alloc (.cells #[.int .i64 P1a, .int .i64 Q1a, .int .i64 G1a] 24)) [.slice a1ca n1ca c1ca, .slice a1cb n1cb c1cb, .slice a1cc n1cc c1cc] 47).alloc (.cells #[.slice a1da n1da c1da, .slice a1db n1db c1db, .slice a1dc n1dc c1dc] 47)); simpa using h
  have HZ3 : Hid (BoxN V2 (u1.heap.size + 1 + 1) 47 [.slice a1da n1da c1da, .slice a1db n1db c1db, .slice a1dc n1dc c1dc]) := by unfold Hid; rw [hV]; have h := (BoxN.new ((u1.alloc (.cells #[.int .i64 P1a, .int .i64 Q1a, .int .i64 G1a] 24)).alloc (.cells #[.slice a1ca n1ca c1ca, .slice a1cb n1cb c1cb, .slice a1cc n1cc c1cc] 47)) [.slice a1da n1da c1da, .slice a1db n1db c1db, .slice a1dc n1dc c1dc] 47); simpa using h
  try (go_wp2_with fail)
  rw [← hV]
  clear hV
  replace HB := Lib.hid (Below.next HB.out hbV)
  replace HL1b := Lib.hid (HL1b.out.below hbV)
  replace HL1ca := Lib.hid (HL1ca.out.below hbV)
  replace HL1cb := Lib.hid (HL1cb.out.below hbV)
  replace HL1cc := Lib.hid (HL1cc.out.below hbV)
  replace HL1da := Lib.hid (HL1da.out.below hbV)
  replace HL1db := Lib.hid (HL1db.out.below hbV)
  replace HL1dc := Lib.hid (HL1dc.out.below hbV)
  clear hbV
  have z_0_0 := HZ1.out.cell (i := 0) rfl
  have z_0_1 := HZ1.out.cell (i := 1) rfl
  have z_0_2 := HZ1.out.cell (i := 2) rfl
  have z_1_0 := HZ2.out.cell (i := 0) rfl
  have z_1_1 := HZ2.out.cell (i := 1) rfl
  have z_1_2 := HZ2.out.cell (i := 2) rfl
  have z_2_0 := HZ3.out.cell (i := 0) rfl
  have z_2_1 := HZ3.out.cell (i := 1) rfl
  have z_2_2 := HZ3.out.cell (i := 2) rfl
  try (go_wp2_with fail)
  clear z_0_0 z_0_1 z_0_2 z_1_0 z_1_1 z_1_2 z_2_0 z_2_1 z_2_2
  refine (impl_ExtractOneOf ⟨P1a, Q1a, G1a⟩ _ l1b _ ⟨l1ca, l1cb, l1cc⟩ _ ⟨l1da, l1db, l1dc⟩ _ HL1b.out (PfR.mk HL1ca.out HL1cb.out HL1cc.out) (PfR.mk HL1da.out HL1db.out HL1dc.out)).mono ?_
  rintro e u3 ⟨rfl, hb⟩
  obtain ⟨r3a, hr3a⟩ : ∃ r, xeI (xeO ⟨P1a, Q1a, G1a⟩ l1b ⟨l1ca, l1cb, l1cc⟩ ⟨l1da, l1db, l1dc⟩) = r := ⟨_, rfl⟩
  have Hr3a := Lib.hid hr3a
  rw [hr3a]
  clear hr3a
  obtain ⟨r3b, hr3b⟩ : ∃ r, xeX ⟨P1a, Q1a, G1a⟩ ⟨l1ca, l1cb, l1cc⟩ ⟨l1da, l1db, l1dc⟩ (xeO ⟨P1a, Q1a, G1a⟩ l1b ⟨l1ca, l1cb, l1cc⟩ ⟨l1da, l1db, l1dc⟩) = r := ⟨_, rfl⟩
  have Hr3b := Lib.hid hr3b
  rw [hr3b]
  clear hr3b
  obtain ⟨q3c, hq3c⟩ : ∃ r, (xeO ⟨P1a, Q1a, G1a⟩ l1b ⟨l1ca, l1cb, l1cc⟩ ⟨l1da, l1db, l1dc⟩).isSome = r := ⟨_, rfl⟩
  have Hq3c := Lib.hid hq3c
  rw [hq3c]
  clear hq3c
  replace HB := Lib.hid (Below.next HB.out hb)
  replace HZ1 := Lib.hid (HZ1.out.below hb)
  replace HZ2 := Lib.hid (HZ2.out.below hb)
  replace HZ3 := Lib.hid (HZ3.out.below hb)
  replace HL1b := Lib.hid (HL1b.out.below hb)
  replace HL1ca := Lib.hid (HL1ca.out.below hb)
  replace HL1cb := Lib.hid (HL1cb.out.below hb)
  replace HL1cc := Lib.hid (HL1cc.out.below hb)
  replace HL1da := Lib.hid (HL1da.out.below hb)
  replace HL1db := Lib.hid (HL1db.out.below hb)
  replace HL1dc := Lib.hid (HL1dc.out.below hb)
  clear hb
  have z_0_0 := HZ1.out.cell (i := 0) rfl
  have z_0_1 := HZ1.out.cell (i := 1) rfl
  have z_0_2 := HZ1.out.cell (i := 2) rfl
  have z_1_0 := HZ2.out.cell (i := 0) rfl
  have z_1_1 := HZ2.out.cell (i := 1) rfl
  have z_1_2 := HZ2.out.cell (i := 2) rfl
  have z_2_0 := HZ3.out.cell (i := 0) rfl
  have z_2_1 := HZ3.out.cell (i := 1) rfl
  have z_2_2 := HZ3.out.cell (i := 2) rfl
  try (go_wp2_with fail)
  clear z_0_0 z_0_1 z_0_2 z_1_0 z_1_1 z_1_2 z_2_0 z_2_1 z_2_2
  refine (spec_ExtractOneOf ⟨P1a, Q1a, G1a⟩ _ l1b _ ⟨l1ca, l1cb, l1cc⟩ _ ⟨l1da, l1db, l1dc⟩ _ HL1b.out (PfR.mk HL1ca.out HL1cb.out HL1cc.out) (PfR.mk HL1da.out HL1db.out HL1dc.out)).mono ?_
  rintro e u4 ⟨rfl, hb⟩
  rw [Hr3a.out]
  rw [Hr3b.out]
  rw [Hq3c.out]
  replace HB := Lib.hid (Below.next HB.out hb)
  replace HZ1 := Lib.hid (HZ1.out.below hb)
  replace HZ2 := Lib.hid (HZ2.out.below hb)
  replace HZ3 := Lib.hid (HZ3.out.below hb)
  replace HL1b := Lib.hid (HL1b.out.below hb)
  replace HL1ca := Lib.hid (HL1ca.out.below hb)
  replace HL1cb := Lib.hid (HL1cb.out.below hb)
  replace HL1cc := Lib.hid (HL1cc.out.below hb)
  replace HL1da := Lib.hid (HL1da.out.below hb)
  replace HL1db := Lib.hid (HL1db.out.below hb)
  replace HL1dc := Lib.hid (HL1dc.out.below hb)
  clear hb
  have z_0_0 := HZ1.out.cell (i := 0) rfl
  have z_0_1 := HZ1.out.cell (i := 1) rfl
  have z_0_2 := HZ1.out.cell (i := 2) rfl
  have z_1_0 := HZ2.out.cell (i := 0) rfl
  have z_1_1 := HZ2.out.cell (i := 1) rfl
  have z_1_2 := HZ2.out.cell (i := 2) rfl
  have z_2_0 := HZ3.out.cell (i := 0) rfl
  have z_2_1 := HZ3.out.cell (i := 1) rfl
  have z_2_2 := HZ3.out.cell (i := 2) rfl
  try (go_wp2_with fail)
  clear z_0_0 z_0_1 z_0_2 z_1_0 z_1_1 z_1_2 z_2_0 z_2_1 z_2_2
  refine (spec_DrawSimulateEqual _ _ (H2.out.below HB.out)).mono ?_
  rintro e u5 ⟨⟨P5a, Q5a, G5a, x5b1, x5b2, x5b3, x5b4, x5c, x5d, rfl, hgr5a, ⟨⟨x5b1l, x5b1u⟩, ⟨x5b2l, x5b2u⟩⟩, ⟨⟨x5b3l, x5b3u⟩, ⟨x5b4l, x5b4u⟩⟩, ⟨x5cl, x5cu⟩, ⟨x5dl, x5du⟩⟩, hb⟩
  clear hgr5a
  replace HB := Lib.hid (Below.next HB.out hb)
  replace HZ1 := Lib.hid (HZ1.out.below hb)
  replace HZ2 := Lib.hid (HZ2.out.below hb)
  replace HZ3 := Lib.hid (HZ3.out.below hb)
  replace HL1b := Lib.hid (HL1b.out.below hb)
  replace HL1ca := Lib.hid (HL1ca.out.below hb)
  replace HL1cb := Lib.hid (HL1cb.out.below hb)
  replace HL1cc := Lib.hid (HL1cc.out.below hb)
  replace HL1da := Lib.hid (HL1da.out.below hb)
  replace HL1db := Lib.hid (HL1db.out.below hb)
  replace HL1dc := Lib.hid (HL1dc.out.below hb)
  clear hb
  have z_0_0 := HZ1.out.cell (i := 0) rfl
  have z_0_1 := HZ1.out.cell (i := 1) rfl
  have z_0_2 := HZ1.out.cell (i := 2) rfl
  have z_1_0 := HZ2.out.cell (i := 0) rfl
  have z_1_1 := HZ2.out.cell (i := 1) rfl
  have z_1_2 := HZ2.out.cell (i := 2) rfl
  have z_2_0 := HZ3.out.cell (i := 0) rfl
  have z_2_1 := HZ3.out.cell (i := 1) rfl
  have z_2_2 := HZ3.out.cell (i := 2) rfl
  have lt_HZ1 := HZ1.out.lt
  have lt_HZ2 := HZ2.out.lt
  have lt_HZ3 := HZ3.out.lt
  obtain ⟨V6, hV⟩ : ∃ V, V = (u5.alloc (.cells #[.int .i64 P5a, .int .i64 Q5a, .int .i64 G5a] 24)).alloc (.cells #[.int .i64 x5b1, .int .i64 x5b2, .int .i64 x5b3, .int .i64 x5b4] 31) := ⟨_, rfl⟩
  have hbV : Below u5.heap.size u5 V6 := by rw [hV]; (repeat (first | exact Below.refl _ _ | assumption | refine Below.drew ?_ | refine Below.alloc ?_ (by first | (simp; done) | (simp; omega)) _ | refine Below.setCell ?_ (by first | (simp; done) | (simp; omega)) _))
  have HZ4 : Hid (BoxN V6 u5.heap.size 24 [.int .i64 P5a, .int .i64 Q5a, .int .i64 G5a]) := by unfold Hid; rw [hV]; have h := ((BoxN.new u5 [.int .i64 P5a, .int .i64 Q5a, .int .i64 G5a] 24).alloc (.cells #[.int .i64 x5b1, .int .i64 x5b2, .int .i64 x5b3, .int .i64 x5b4] 31)); simpa using h
  have HZ5 : Hid (BoxN V6 (u5.heap.size + 1) 31 [.int .i64 x5b1, .int .i64 x5b2, .int .i64 x5b3, .int .i64 x5b4]) := by unfold Hid; rw [hV]; have h := (BoxN.new (u5.alloc (.cells #[.int .i64 P5a, .int .i64 Q5a, .int .i64 G5a] 24)) [.int .i64 x5b1, .int .i64 x5b2, .int .i64 x5b3, .int .i64 x5b4] 31); simpa using h
  try (go_wp2_with fail)
  rw [← hV]
  clear hV
  clear lt_HZ1
  clear lt_HZ2
  clear lt_HZ3
  clear z_0_0 z_0_1 z_0_2 z_1_0 z_1_1 z_1_2 z_2_0 z_2_1 z_2_2
  replace HB := Lib.hid (Below.next HB.out hbV)
  replace HZ1 := Lib.hid (HZ1.out.below hbV)
  replace HZ2 := Lib.hid (HZ2.out.below hbV)
  replace HZ3 := Lib.hid (HZ3.out.below hbV)
  replace HL1b := Lib.hid (HL1b.out.below hbV)
  replace HL1ca := Lib.hid (HL1ca.out.below hbV)
  replace HL1cb := Lib.hid (HL1cb.out.below hbV)
  replace HL1cc := Lib.hid (HL1cc.out.below hbV)
  replace HL1da := Lib.hid (HL1da.out.below hbV)
  replace HL1db := Lib.hid (HL1db.out.below hbV)
  replace HL1dc := Lib.hid (HL1dc.out.below hbV)
  clear hbV
  have z_0_0 := HZ1.out.cell (i := 0) rfl
  have z_0_1 := HZ1.out.cell (i := 1) rfl
  have z_0_2 := HZ1.out.cell (i := 2) rfl
  have z_1_0 := HZ2.out.cell (i := 0) rfl
  have z_1_1 := HZ2.out.cell (i := 1) rfl
  have z_1_2 := HZ2.out.cell (i := 2) rfl
  have z_2_0 := HZ3.out.cell (i := 0) rfl
  have z_2_1 := HZ3.out.cell (i := 1) rfl
  have z_2_2 := HZ3.out.cell (i := 2) rfl
  have z_3_0 := HZ4.out.cell (i := 0) rfl
  have z_3_1 := HZ4.out.cell (i := 1) rfl
  have z_3_2 := HZ4.out.cell (i := 2) rfl
  have z_4_0 := HZ5.out.cell (i := 0) rfl
  have z_4_1 := HZ5.out.cell (i := 1) rfl
  have z_4_2 := HZ5.out.cell (i := 2) rfl
  have z_4_3 := HZ5.out.cell (i := 3) rfl
  try (go_wp2_with fail)
  clear z_0_0 z_0_1 z_0_2 z_1_0 z_1_1 z_1_2 z_2_0 z_2_1 z_2_2 z_3_0 z_3_1 z_3_2 z_4_0 z_4_1 z_4_2 z_4_3
  refine (impl_SimulateEqual ⟨P5a, Q5a, G5a⟩ ⟨x5b1, x5b2, x5b3, x5b4⟩ x5c x5d _ ⟨⟨(⟨by omega, by omega⟩ : I64 x5b1), (⟨by omega, by omega⟩ : I64 x5b2)⟩, ⟨(⟨by omega, by omega⟩ : I64 x5b3), (⟨by omega, by omega⟩ : I64 x5b4)⟩⟩ (⟨by omega, by omega⟩ : I64 x5c) (⟨by omega, by omega⟩ : I64 x5d)).mono ?_
  rintro e u7 ⟨rfl, hb⟩
  obtain ⟨r7a, hr7a⟩ : ∃ r, seX ⟨P5a, Q5a, G5a⟩ ⟨x5b1, x5b2, x5b3, x5b4⟩ x5c x5d = r := ⟨_, rfl⟩
  have Hr7a := Lib.hid hr7a
  rw [hr7a]
  clear hr7a
  obtain ⟨r7b, hr7b⟩ : ∃ r, seY ⟨P5a, Q5a, G5a⟩ ⟨x5b1, x5b2, x5b3, x5b4⟩ x5c x5d = r := ⟨_, rfl⟩
  have Hr7b := Lib.hid hr7b
  rw [hr7b]
  clear hr7b
  obtain ⟨q7c, hq7c⟩ : ∃ r, seB ⟨P5a, Q5a, G5a⟩ ⟨x5b1, x5b2, x5b3, x5b4⟩ x5c x5d = r := ⟨_, rfl⟩
  have Hq7c := Lib.hid hq7c
  rw [hq7c]
  clear hq7c
  replace HB := Lib.hid (Below.next HB.out hb)
  replace HZ1 := Lib.hid (HZ1.out.below hb)
  replace HZ2 := Lib.hid (HZ2.out.below hb)
  replace HZ3 := Lib.hid (HZ3.out.below hb)
  replace HZ4 := Lib.hid (HZ4.out.below hb)
  replace HZ5 := Lib.hid (HZ5.out.below hb)
  replace HL1b := Lib.hid (HL1b.out.below hb)
  replace HL1ca := Lib.hid (HL1ca.out.below hb)
  replace HL1cb := Lib.hid (HL1cb.out.below hb)
  replace HL1cc := Lib.hid (HL1cc.out.below hb)
  replace HL1da := Lib.hid (HL1da.out.below hb)
  replace HL1db := Lib.hid (HL1db.out.below hb)
  replace HL1dc := Lib.hid (HL1dc.out.below hb)
  clear hb
  have z_0_0 := HZ1.out.cell (i := 0) rfl
  have z_0_1 := HZ1.out.cell (i := 1) rfl
  have z_0_2 := HZ1.out.cell (i := 2) rfl
  have z_1_0 := HZ2.out.cell (i := 0) rfl
  have z_1_1 := HZ2.out.cell (i := 1) rfl
  have z_1_2 := HZ2.out.cell (i := 2) rfl
  have z_2_0 := HZ3.out.cell (i := 0) rfl
  have z_2_1 := HZ3.out.cell (i := 1) rfl
  have z_2_2 := HZ3.out.cell (i := 2) rfl
  have z_3_0 := HZ4.out.cell (i := 0) rfl
  have z_3_1 := HZ4.out.cell (i := 1) rfl
  have z_3_2 := HZ4.out.cell (i := 2) rfl
  have z_4_0 := HZ5.out.cell (i := 0) rfl
  have z_4_1 := HZ5.out.cell (i := 1) rfl
  have z_4_2 := HZ5.out.cell (i := 2) rfl
  have z_4_3 := HZ5.out.cell (i := 3) rfl
  try (go_wp2_with fail)
  clear z_0_0 z_0_1 z_0_2 z_1_0 z_1_1 z_1_2 z_2_0 z_2_1 z_2_2 z_3_0 z_3_1 z_3_2 z_4_0 z_4_1 z_4_2 z_4_3
  refine (spec_SimulateEqual ⟨P5a, Q5a, G5a⟩ ⟨x5b1, x5b2, x5b3, x5b4⟩ x5c x5d _ ⟨⟨(⟨by omega, by omega⟩ : I64 x5b1), (⟨by omega, by omega⟩ : I64 x5b2)⟩, ⟨(⟨by omega, by omega⟩ : I64 x5b3), (⟨by omega, by omega⟩ : I64 x5b4)⟩⟩ (⟨by omega, by omega⟩ : I64 x5c) (⟨by omega, by omega⟩ : I64 x5d)).mono ?_
  rintro e u8 ⟨rfl, hb⟩
  rw [Hr7a.out]
  rw [Hr7b.out]
  rw [Hq7c.out]
  replace HB := Lib.hid (Below.next HB.out hb)
  replace HZ1 := Lib.hid (HZ1.out.below hb)
  replace HZ2 := Lib.hid (HZ2.out.below hb)
  replace HZ3 := Lib.hid (HZ3.out.below hb)
  replace HZ4 := Lib.hid (HZ4.out.below hb)
  replace HZ5 := Lib.hid (HZ5.out.below hb)
  replace HL1b := Lib.hid (HL1b.out.below hb)
  replace HL1ca := Lib.hid (HL1ca.out.below hb)
  replace HL1cb := Lib.hid (HL1cb.out.below hb)
  replace HL1cc := Lib.hid (HL1cc.out.below hb)
  replace HL1da := Lib.hid (HL1da.out.below hb)
  replace HL1db := Lib.hid (HL1db.out.below hb)
  replace HL1dc := Lib.hid (HL1dc.out.below hb)
  clear hb
  have eq_q3c : (q3c == q3c) = true := by simp
  have eq_r3a : (r3a == r3a) = true := by simp
  have eq_r3b : (r3b == r3b) = true := by simp
  have eq_q7c : (q7c == q7c) = true := by simp
  have eq_r7a : (r7a == r7a) = true := by simp
  have eq_r7b : (r7b == r7b) = true := by simp
  cases q3c with
  | false =>
    have z_0_0 := HZ1.out.cell (i := 0) rfl
    have z_0_1 := HZ1.out.cell (i := 1) rfl
    have z_0_2 := HZ1.out.cell (i := 2) rfl
    have z_1_0 := HZ2.out.cell (i := 0) rfl
    have z_1_1 := HZ2.out.cell (i := 1) rfl
    have z_1_2 := HZ2.out.cell (i := 2) rfl
    have z_2_0 := HZ3.out.cell (i := 0) rfl
    have z_2_1 := HZ3.out.cell (i := 1) rfl
    have z_2_2 := HZ3.out.cell (i := 2) rfl
    have z_3_0 := HZ4.out.cell (i := 0) rfl
    have z_3_1 := HZ4.out.cell (i := 1) rfl
    have z_3_2 := HZ4.out.cell (i := 2) rfl
    have z_4_0 := HZ5.out.cell (i := 0) rfl
    have z_4_1 := HZ5.out.cell (i := 1) rfl
    have z_4_2 := HZ5.out.cell (i := 2) rfl
    have z_4_3 := HZ5.out.cell (i := 3) rfl
    try (go_wp2_with fail)
    clear z_0_0 z_0_1 z_0_2 z_1_0 z_1_1 z_1_2 z_2_0 z_2_1 z_2_2 z_3_0 z_3_1 z_3_2 z_4_0 z_4_1 z_4_2 z_4_3
    go_ret
    exact ⟨rfl, HB.out⟩
  | true =>
    have z_0_0 := HZ1.out.cell (i := 0) rfl
    have z_0_1 := HZ1.out.cell (i := 1) rfl
    have z_0_2 := HZ1.out.cell (i := 2) rfl
    have z_1_0 := HZ2.out.cell (i := 0) rfl
    have z_1_1 := HZ2.out.cell (i := 1) rfl
    have z_1_2 := HZ2.out.cell (i := 2) rfl
    have z_2_0 := HZ3.out.cell (i := 0) rfl
    have z_2_1 := HZ3.out.cell (i := 1) rfl
    have z_2_2 := HZ3.out.cell (i := 2) rfl
    have z_3_0 := HZ4.out.cell (i := 0) rfl
    have z_3_1 := HZ4.out.cell (i := 1) rfl
    have z_3_2 := HZ4.out.cell (i := 2) rfl
    have z_4_0 := HZ5.out.cell (i := 0) rfl
    have z_4_1 := HZ5.out.cell (i := 1) rfl
    have z_4_2 := HZ5.out.cell (i := 2) rfl
    have z_4_3 := HZ5.out.cell (i := 3) rfl
    try (go_wp2_with fail)
    clear z_0_0 z_0_1 z_0_2 z_1_0 z_1_1 z_1_2 z_2_0 z_2_1 z_2_2 z_3_0 z_3_1 z_3_2 z_4_0 z_4_1 z_4_2 z_4_3
    obtain ⟨k, hkl, hki, hR, hBt⟩ := ext_tail Hq3c.out
    rw [Hr3a.out] at hki
    rw [Hr3b.out] at hR hBt
    clear Hr3a
    subst hki
    have HK := Lib.hid hkl
    have HTR : Hid (itR ⟨P1a, Q1a, G1a⟩ (l1b[k]'HK.out) r3b = true) := hR
    have HTB : Hid (itB ⟨P1a, Q1a, G1a⟩ (l1b[k]'HK.out) r3b = true) := hBt
    clear hR hBt hkl
    have hln : k < n1b := by have := HE1b.out; have := HK.out; omega
    have hbz : Below u8.heap.size u8 u8 := Below.refl _ _
    obtain ⟨b_y, o_y, rfl, hcx⟩ := HL1b.out.at_ (by omega)
    obtain ⟨us, hcell, hrd⟩ := hcx k HK.out
    clear hcx
    generalize l1b[k]'HK.out = y at hrd HTR HTB
    obtain ⟨ers, jy_0, jy_1, jy_2, jy_3⟩ := rdEqualLog.1 ⟨us, rfl, hrd⟩
    obtain rfl : us = [.int .i64 y.g1, .int .i64 y.y1, .int .i64 y.g2, .int .i64 y.y2] := by have h := Value.agg.inj ers; simpa using congrArg Array.toList h
    clear ers hrd
    have y_y_0 : u8.cell? ⟨b_y, o_y + k * 4, none⟩ = some (.int .i64 y.g1) := box_at (hcell 0 (by decide)) hbz
    have y_y_1 : u8.cell? ⟨b_y, o_y + k * 4 + 1, none⟩ = some (.int .i64 y.y1) := box_at (hcell 1 (by decide)) hbz
    have y_y_2 : u8.cell? ⟨b_y, o_y + k * 4 + 2, none⟩ = some (.int .i64 y.g2) := box_at (hcell 2 (by decide)) hbz
    have y_y_3 : u8.cell? ⟨b_y, o_y + k * 4 + 3, none⟩ = some (.int .i64 y.y2) := box_at (hcell 3 (by decide)) hbz
    clear hcell
    have HR_y := Lib.hid ((kS rEqualLog).rd_below (rdEqualLog.2 ⟨rfl, jy_0, jy_1, jy_2, jy_3⟩ : (kS rEqualLog).rd u8 (.agg #[.int .i64 y.g1, .int .i64 y.y1, .int .i64 y.g2, .int .i64 y.y2]) y) hbz)
    have J_y_0 := Lib.hid jy_0
    have J_y_1 := Lib.hid jy_1
    have J_y_2 := Lib.hid jy_2
    have J_y_3 := Lib.hid jy_3
    clear jy_0 jy_1 jy_2 jy_3
    have HYI := Lib.hid (itB_small HTB.out)
    clear hbz
    have kk0 : (0 : Int) ≤ (k : Int) := by omega
    have kk1 : (k : Int) < (n1b : Int) := by omega
    have c0_0 := HZ1.out.cell (i := 0) rfl
    have c0_1 := HZ1.out.cell (i := 1) rfl
    have c0_2 := HZ1.out.cell (i := 2) rfl
    have HCC : Hid (∀ w', Below u8.heap.size u8 w' → w'.cell? ⟨u1.heap.size, 0, none⟩ = some (.int .i64 P1a) ∧ w'.cell? ⟨u1.heap.size, 1, none⟩ = some (.int .i64 Q1a) ∧ w'.cell? ⟨u1.heap.size, 2, none⟩ = some (.int .i64 G1a) ∧ w'.cell? ⟨b_y, o_y + k * 4, none⟩ = some (.int .i64 y.g1) ∧ w'.cell? ⟨b_y, o_y + k * 4 + 1, none⟩ = some (.int .i64 y.y1) ∧ w'.cell? ⟨b_y, o_y + k * 4 + 2, none⟩ = some (.int .i64 y.g2) ∧ w'.cell? ⟨b_y, o_y + k * 4 + 3, none⟩ = some (.int .i64 y.y2)) := fun w' h => ⟨box_at c0_0 h, box_at c0_1 h, box_at c0_2 h, box_at y_y_0 h, box_at y_y_1 h, box_at y_y_2 h, box_at y_y_3 h⟩
    go_wp2_with fail
    refine wp_region_noPanic ?_
    refine wp_region_V (fun w' => w'.cell? ⟨u1.heap.size, 0, none⟩ = some (.int .i64 P1a) ∧ w'.cell? ⟨u1.heap.size, 1, none⟩ = some (.int .i64 Q1a) ∧ w'.cell? ⟨u1.heap.size, 2, none⟩ = some (.int .i64 G1a) ∧ w'.cell? ⟨b_y, o_y + k * 4, none⟩ = some (.int .i64 y.g1) ∧ w'.cell? ⟨b_y, o_y + k * 4 + 1, none⟩ = some (.int .i64 y.y1) ∧ w'.cell? ⟨b_y, o_y + k * 4 + 2, none⟩ = some (.int .i64 y.g2) ∧ w'.cell? ⟨b_y, o_y + k * 4 + 3, none⟩ = some (.int .i64 y.y2)) 14 11 (.rd 0 (.rd 1 (.rd 2 (.rd 3 (.rd 4 (.rd 5 (.alt 6 (.rd 7 (.rd 8 (.rd 9 (.rd 10 .done)))) .nil))))))) [11] (by kernel_rfl) (by kernel_rfl) rfl (fun _ _ _ _ _ h => h) (HCC.out _ (Below.refl _ _).drew) ?_
    simp only [pickV, pickN, List.getElem?_cons_zero, List.getElem?_cons_succ]
    repeat (refine' wpV_read _ (by kernel_rfl) (fun w' hS' => ?_) ?_; rotate_left; (focus ((try dsimp only at hS'); go_simp; (try with_reducible rfl))); (try simp only [Act.put, List.setIfInBounds_toArray, List.set_cons_zero, List.set_cons_succ]))
    refine wpV_do (by kernel_rfl) (fun K hK => ?_)
    go_simp
    go_at_call 16
    refine (impl_IsTrueEqual ⟨P1a, Q1a, G1a⟩ y r3b _ HYI.out.1 HYI.out.2).mono ?_
    rintro e uz ⟨rfl, hb⟩
    rw [HTR.out, HTB.out]
    have hbz : Below u8.heap.size u8 uz := Below.next ((Below.refl _ _).drew : Below u8.heap.size u8 u8.drew) hb
    clear hb
    refine hK.out _ _ (HCC.out _ hbz) (fun _ => ?_)
    clear hK K
    (try simp only [Act.put, List.setIfInBounds_toArray, List.set_cons_zero, List.set_cons_succ])
    repeat (refine' wpV_read _ (by kernel_rfl) (fun w' hS' => ?_) ?_; rotate_left; (focus ((try dsimp only at hS'); go_simp; (try with_reducible rfl))); (try simp only [Act.put, List.setIfInBounds_toArray, List.set_cons_zero, List.set_cons_succ]))
    refine wpV_done ?_
    clear HCC c0_0 c0_1 c0_2 y_y_0 y_y_1 y_y_2 y_y_3
    go_wp2_with fail
    refine NoPanic.normal ?_
    replace HB := Lib.hid (Below.next HB.out hbz)
    replace HZ1 := Lib.hid (HZ1.out.below hbz)
    replace HZ2 := Lib.hid (HZ2.out.below hbz)
    replace HZ3 := Lib.hid (HZ3.out.below hbz)
    replace HZ4 := Lib.hid (HZ4.out.below hbz)
    replace HZ5 := Lib.hid (HZ5.out.below hbz)
    replace HL1b := Lib.hid (HL1b.out.below hbz)
    replace HL1ca := Lib.hid (HL1ca.out.below hbz)
    replace HL1cb := Lib.hid (HL1cb.out.below hbz)
    replace HL1cc := Lib.hid (HL1cc.out.below hbz)
    replace HL1da := Lib.hid (HL1da.out.below hbz)
    replace HL1db := Lib.hid (HL1db.out.below hbz)
    replace HL1dc := Lib.hid (HL1dc.out.below hbz)
    clear hbz
    have z_0_0 := HZ1.out.cell (i := 0) rfl
    have z_0_1 := HZ1.out.cell (i := 1) rfl
    have z_0_2 := HZ1.out.cell (i := 2) rfl
    have z_1_0 := HZ2.out.cell (i := 0) rfl
    have z_1_1 := HZ2.out.cell (i := 1) rfl
    have z_1_2 := HZ2.out.cell (i := 2) rfl
    have z_2_0 := HZ3.out.cell (i := 0) rfl
    have z_2_1 := HZ3.out.cell (i := 1) rfl
    have z_2_2 := HZ3.out.cell (i := 2) rfl
    have z_3_0 := HZ4.out.cell (i := 0) rfl
    have z_3_1 := HZ4.out.cell (i := 1) rfl
    have z_3_2 := HZ4.out.cell (i := 2) rfl
    have z_4_0 := HZ5.out.cell (i := 0) rfl
    have z_4_1 := HZ5.out.cell (i := 1) rfl
    have z_4_2 := HZ5.out.cell (i := 2) rfl
    have z_4_3 := HZ5.out.cell (i := 3) rfl
    try (go_wp2_with fail)
    clear z_0_0 z_0_1 z_0_2 z_1_0 z_1_1 z_1_2 z_2_0 z_2_1 z_2_2 z_3_0 z_3_1 z_3_2 z_4_0 z_4_1 z_4_2 z_4_3
    go_ret
    exact ⟨rfl, HB.out⟩
end Go.Proofs.Ytegomgnlhcbmfaa
/- From a walk of a law to its row: whatever the arguments, the law returns true and nothing that was there has turned. -/







namespace Go.Proofs.Ytegomgnlhcbmfaa
open Go.ChangeShapes Go.WideShapes Go.ChangeAt Go.RowKit

theorem ownKnob_none : ownKnob Try.prog.godebug = none := by kernel_rfl
theorem laid_out : laidOutB Try.prog = true := by kernel_rfl

section
variable {H : Type} {enc : TypeId × Value → H} {P : Program}

theorem trodAll_below (hl : laidOutB P = true) {W W' : World} (hb : Below W.heap.size W W') :
    ∀ (ts : List TypeId) (vs : List Value) (ds : List (DataW H)) (ps : List MemPlace), (∀ t ∈ ts, P.readableRec t = true ∧ t < P.types.size) →
      DataW.TrodAll enc P W 0 (fun _ => true) true ts vs ds ps → (∀ x ∈ ps, x.block < W.heap.size) →
      ∀ sp : Nat → Bool, (∀ p ∈ ps, sp p.block = true) → DataW.TrodAll enc P W' 0 sp true ts vs ds ps
  | [], vs, ds, ps, _, h, _, sp, _ => by
    obtain ⟨rfl, rfl, rfl⟩ := trodAll_nil h
    exact trodAll_mk0
  | t :: ts, vs, ds, ps, ht, h, hlt, sp, hsp => by
    obtain ⟨v0, vs0, d0, ds0, p0, q0, rfl, rfl, rfl, h0, r0⟩ := trodAll_cons h
    refine trodAll_cons_mk ?_ (trodAll_below hl hb ts vs0 ds0 q0 (fun t' h' => ht t' (by simp [h'])) r0 (fun x hx => hlt x (by simp [hx])) sp (fun x hx => hsp x (by simp [hx])))
    exact WideElems.Trod_stays hl (ht t (by simp)).1 (ht t (by simp)).2 h0 (fun x hx => hb.same (hlt x (by simp [hx]))) (fun x hx => hsp x (by simp [hx]))

theorem post_law {f : Func} {s : ChangeSpec} {tb : TypeId} {W W' : World} {args : Array Value} {ds gs : List (DataW H)} {before : List MemPlace}
    (hl : laidOutB P = true) (hpB : f.params.toList.all (fun t => P.readableRec t && decide (t < P.types.size)) = true) (hrt : f.resultTypes = #[tb]) (htb : P.underlying tb = some .bool)
    (hvars : s.vars = []) (hW : DataW.Whole enc P f.params.toList s.vars false W args.toList ds gs before)
    (hfn : s.fn H ds = { results := [.lit (.bool true)], args := ds }) (hb : Below W.heap.size W W') :
    s.post enc P f false true false false W args (.bool true) W' := by
  have hp : ∀ t ∈ f.params.toList, P.readableRec t = true ∧ t < P.types.size := fun t ht => by simpa using List.all_eq_true.1 hpB t ht
  have hlt : ∀ x ∈ before, x.block < W.heap.size := fun x hx => by simpa using hW.lt x hx
  have hW' := hW
  obtain ⟨p, q, hA0, hV, rfl, hfz, hnd⟩ := hW
  rw [hvars] at hV
  obtain ⟨rfl, rfl⟩ := trodVars_none hV
  have e : s.fn H (ds ++ []) = { results := [.lit (.bool true)], args := ds } := by rw [List.append_nil]; exact hfn
  have hargs := trodAll_below (enc := enc) hl hb f.params.toList args.toList ds p hp hA0 (fun x hx => hlt x (by simp [hx]))
  refine ⟨ds, [], p ++ [], [], p, [], hW', ?_, ?_, ?_, ?_, fun h => by cases h⟩
  · rw [e, hrt]
    exact trodAll_cons_mk (shut_bool htb true) trodAll_mk0
  · rw [e]
    exact hargs _ (fun x hx => by simpa using hlt x (by simp [hx]))
  · rw [e, hvars]
    rfl
  · exact hb.frame _
end


section
variable {H : Type} {enc : TypeId × Value → H} {P : Program} {w : World} {base : Nat} {spare : Nat → Bool} {held : Bool}
open Go.Joins Go.Deep
end

section
variable {H : Type} {enc : TypeId × Value → H} {w : World} {base : Nat} {spare : Nat → Bool} {held : Bool}
theorem addr_of_cell {w : World} {a : Addr} {v : Value} (h : w.cell? a = some v) : a = ⟨a.block, a.off, none⟩ := by
  obtain ⟨b, o, s⟩ := a
  cases s with
  | none => rfl
  | some x =>
    unfold World.cell? at h
    split at h <;> simp at h
end
end Go.Proofs.Ytegomgnlhcbmfaa
/- Arguments that are slices of structs. -/


namespace Go.Proofs.Ytegomgnlhcbmfaa
open Go.ChangeShapes Go.WideShapes Go.ChangeAt Go.RowKit
set_option linter.unusedVariables false

end Go.Proofs.Ytegomgnlhcbmfaa
/- Arguments of type laws.Proof (printed by genarg.py). -/


namespace Go.Proofs.Ytegomgnlhcbmfaa
open Go.ChangeShapes Go.WideShapes Go.ChangeAt Go.RowKit
set_option linter.unusedVariables false
set_option linter.unusedSimpArgs false

section
variable {H : Type} {enc : TypeId × Value → H} {w : World} {base : Nat} {spare : Nat → Bool} {held : Bool}
open Go.Joins Go.Deep
end
end Go.Proofs.Ytegomgnlhcbmfaa
/- Arguments of type laws.Head (printed by genarg.py). -/



namespace Go.Proofs.Ytegomgnlhcbmfaa
open Go.ChangeShapes Go.WideShapes Go.ChangeAt Go.RowKit
set_option linter.unusedVariables false
set_option linter.unusedSimpArgs false

section
variable {H : Type} {enc : TypeId × Value → H} {w : World} {base : Nat} {spare : Nat → Bool} {held : Bool}
open Go.Joins Go.Deep
end
end Go.Proofs.Ytegomgnlhcbmfaa
/- Arguments of type laws.Entry (printed by genarg.py). -/



namespace Go.Proofs.Ytegomgnlhcbmfaa
open Go.ChangeShapes Go.WideShapes Go.ChangeAt Go.RowKit
set_option linter.unusedVariables false
set_option linter.unusedSimpArgs false

section
variable {H : Type} {enc : TypeId × Value → H} {w : World} {base : Nat} {spare : Nat → Bool} {held : Bool}
open Go.Joins Go.Deep
end
end Go.Proofs.Ytegomgnlhcbmfaa
/- Arguments of type laws.Group. -/


namespace Go.Proofs.Ytegomgnlhcbmfaa
open Go.ChangeShapes Go.WideShapes Go.ChangeAt Go.RowKit
set_option linter.unusedVariables false

section
variable {H : Type} {enc : TypeId × Value → H} {w : World} {base : Nat} {spare : Nat → Bool} {held : Bool}
open Go.Joins Go.Deep
end
end Go.Proofs.Ytegomgnlhcbmfaa
namespace Go.Proofs.Ytegomgnlhcbmfaa
open Go.ChangeShapes Go.WideShapes Go.ChangeAt Go.RowKit
set_option linter.unusedVariables false

section
variable {H : Type} {enc : TypeId × Value → H} {w : World} {base : Nat} {spare : Nat → Bool} {held : Bool}
theorem cells_byte : Try.prog.cellsOf 5 = 1 := by kernel_rfl
theorem wf_u8 {x : Int} (h : (Lit.int .u8 x).wf = true) : 0 ≤ x ∧ x ≤ 255 := by
  simpa [Lit.wf, IntKind.min, IntKind.max, IntKind.signed, IntKind.bits] using h
set_option maxRecDepth 100000 in
theorem bytes_of_trod {n : Nat} {v : Value} {y : DataW H × List MemPlace} (h : DataW.trod enc Try.prog w base spare held n 22 [v] = some y) : Bytes w v := by
  rcases open_ints Try.underlying22 Try.underlying5 cells_byte h with ⟨hcs, _⟩ | ⟨a, len, cap, zs, hcs, _, hl, hm, hz, _, hcell, hwz⟩
  · simp at hcs; subst hcs; exact ⟨none, 0, 0, rfl, Nat.le_refl _, Nat.zero_le _, .inl rfl⟩
  · simp only [List.cons.injEq, and_true] at hcs; subst hcs
    have hle : len ≤ zs.length := by rw [hz]; split <;> omega
    refine ⟨some a, len, cap, rfl, hl, hm, ?_⟩
    rcases Nat.eq_zero_or_pos len with h0 | h0
    · exact .inl h0
    · have hc0 := hcell 0 (by omega)
      have e : a.add 0 = a := by simp [Addr.add]
      rw [e] at hc0
      have ea := addr_of_cell hc0
      refine .inr ⟨a.block, a.off, by rw [← ea], fun i hi => ?_⟩
      have h1 := hcell i (by omega)
      rw [ea, Addr.add_lit] at h1
      refine ⟨_, h1, ?_⟩
      have h2 := hwz (zs.getD i 0) (by rw [List.getD_eq_getElem?_getD, List.getElem?_eq_getElem (by omega)]; exact List.getElem_mem _)
      exact wf_u8 h2
set_option maxRecDepth 100000 in
theorem bytes_of_arg {r : Reach} {b0 : Nat} {v : Value} {d : DataW H} {p : List MemPlace} (hv : Value.okWide Try.prog w r b0 22 v) (h : DataW.Trod enc Try.prog w base spare held 22 v d p) : Bytes w v := by
  obtain ⟨a, n, c, rfl⟩ := okWide_slice Try.underlying22 hv
  obtain ⟨fuel, hf⟩ := h
  exact bytes_of_trod (by simpa [Value.cells] using hf)
end
end Go.Proofs.Ytegomgnlhcbmfaa
