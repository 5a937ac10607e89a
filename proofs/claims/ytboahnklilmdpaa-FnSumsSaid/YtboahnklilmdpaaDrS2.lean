/- Draws: proofs of sums to be checked (printed by gen_drs.py). -/
import Derived.Test.YtboahnklilmdpaaDrS
import Derived.Test.YtboahnklilmdpaaDrT
import Derived.Test.YtboahnklilmdpaaSpoil
import Derived.Test.YtboahnklilmdpaaSum2
namespace Go.Proofs.Ytboahnklilmdpaa
open Go.RowKit
set_option linter.unusedSimpArgs false
set_option linter.unusedVariables false

theorem psR_len (gr : GroupD) (s : ByteArray) (bh : Int) (bl rs l cs : List Int) : (psR gr s bh bl rs l cs).c.length ≤ 30 ∧ (psR gr s bh bl rs l cs).h.length ≤ 30 ∧ (psR gr s bh bl rs l cs).r.length ≤ 30 := by
  unfold psR
  split
  · exact ⟨by simp [psD], by simp [psD], by simp [psD]⟩
  · exact ⟨by simp, by simp, by simp⟩
theorem spec_nSumB (v : Value) (l : List Int) (q : Int) (w : World) (h : Ints w v l) (hq : 0 < q) (hq2 : q ≤ 2000000000) (hl : ∀ x ∈ l, 0 ≤ x ∧ x < q) :
    Calls Try.prog 208 #[v, .int .i64 q] w fun e w' => e = .returned (.int .i64 (sumM q l)) ∧ Below w.heap.size w w' := by
  refine (spec_nSum v l q w h hq hq2 hl).mono ?_
  rintro e w' ⟨h1, rfl⟩
  exact ⟨h1, Below.refl _ _⟩
set_option maxRecDepth 100000 in
set_option maxHeartbeats 4000000 in
theorem spec_DrawVerifySum (v : Value) (w : World) (h : Bytes w v) :
    Calls Try.prog 88 #[v] w fun e w' => (∃ (P : Int) (Q : Int) (G : Int) (hr1 : Int) (vr1 : Value) (lr1 : List Int) (vr2 : Value) (lr2 : List Int) (xr3 : Int) (vr4a : Value) (vr4b : Value) (vr4c : Value) (lr4a : List Int) (lr4b : List Int) (lr4c : List Int), e = .returned (.tuple #[.agg #[.int .i64 P, .int .i64 Q, .int .i64 G], .agg #[.int .i64 hr1, vr1], vr2, .int .i64 xr3, .agg #[vr4a, vr4b, vr4c]]) ∧ GrB ⟨P, Q, G⟩ ∧ ((-10 ≤ hr1 ∧ hr1 ≤ 2000000010) ∧ (Ints w' vr1 lr1 ∧ lr1.length ≤ 26)) ∧ (Ints w' vr2 lr2 ∧ lr2.length ≤ 1001) ∧ (-10 ≤ xr3 ∧ xr3 ≤ 2000000010) ∧ (Ints w' vr4a lr4a ∧ lr4a.length ≤ 31) ∧ (Ints w' vr4b lr4b ∧ lr4b.length ≤ 31) ∧ (Ints w' vr4c lr4c ∧ lr4c.length ≤ 31)) ∧ Below w.heap.size w w' := by
  obtain ⟨a, m, c, rfl, hk1, hk2, hv⟩ := h
  have HY : Hid (Bytes w (.slice a m c)) := ⟨a, m, c, rfl, hk1, hk2, hv⟩
  clear hv
  unfold maxLen at hk2
  obtain ⟨R0, hR0⟩ : ∃ U, U = ((w.alloc (.cells #[.int .i64 0, .int .i64 0, .int .i64 0] 39)).alloc (.cells #[.int .i64 0, (.slice none 0 0)] 79)).alloc (.cells #[(.slice none 0 0), (.slice none 0 0), (.slice none 0 0)] 42) := ⟨_, rfl⟩
  have hbU : Below w.heap.size w R0 := by rw [hR0]; (repeat (first | exact Below.refl _ _ | assumption | refine Below.drew ?_ | refine Below.alloc ?_ (by first | (simp; done) | (simp; omega)) _ | refine Below.setCell ?_ (by first | (simp; done) | (simp; omega)) _))
  have HX0 : Hid (BoxN R0 w.heap.size 39 [.int .i64 0, .int .i64 0, .int .i64 0]) := by unfold Hid; rw [hR0]; have h := (((BoxN.new w [.int .i64 0, .int .i64 0, .int .i64 0] 39).alloc (.cells #[.int .i64 0, (.slice none 0 0)] 79)).alloc (.cells #[(.slice none 0 0), (.slice none 0 0), (.slice none 0 0)] 42)); simpa using h
  have HX1 : Hid (BoxN R0 (w.heap.size + 1) 79 [.int .i64 0, (.slice none 0 0)]) := by unfold Hid; rw [hR0]; have h := ((BoxN.new (w.alloc (.cells #[.int .i64 0, .int .i64 0, .int .i64 0] 39)) [.int .i64 0, (.slice none 0 0)] 79).alloc (.cells #[(.slice none 0 0), (.slice none 0 0), (.slice none 0 0)] 42)); simpa using h
  have HX2 : Hid (BoxN R0 (w.heap.size + 1 + 1) 42 [(.slice none 0 0), (.slice none 0 0), (.slice none 0 0)]) := by unfold Hid; rw [hR0]; have h := (BoxN.new ((w.alloc (.cells #[.int .i64 0, .int .i64 0, .int .i64 0] 39)).alloc (.cells #[.int .i64 0, (.slice none 0 0)] 79)) [(.slice none 0 0), (.slice none 0 0), (.slice none 0 0)] 42); simpa using h
  have hsU : R0.heap.size = w.heap.size + 1 + 1 + 1 := by rw [hR0]; simp
  have HBW := Lib.hid hbU
  go_enter Try.func88, Try.ntmps88
  go_wp2_with fail
  rw [← hR0]
  clear hR0
  refine (spec_DrawProveSumS _ _ (HY.out.below hbU)).mono ?_
  rintro e R1 ⟨⟨P, Q, G, h0b, v0b, l0b, v0c, l0c, v0d, l0d, v0e, l0e, rfl, hgr, ⟨⟨h0bl, h0bu⟩, hs0b, hl0b⟩, ⟨hs0c, hl0c⟩, ⟨hs0d, hl0d⟩, ⟨hs0e, hl0e⟩⟩, hb1⟩
  have HGR := Lib.hid hgr
  clear hgr hbU
  replace HY := Lib.hid (HY.out.below (HBW.out.trans (hb1.mono HBW.out.size)))
  replace HBW := Lib.hid (Below.next HBW.out hb1)
  have hs1 := hb1.size
  replace HX0 := Lib.hid (HX0.out.below hb1)
  replace HX1 := Lib.hid (HX1.out.below hb1)
  replace HX2 := Lib.hid (HX2.out.below hb1)
  clear hb1
  obtain ⟨a0b, n0b, c0b, rfl⟩ := hs0b.here.shape
  have HE0b := Lib.hid hs0b.here.len
  have hn0b : n0b ≤ 26 := by have := HE0b.out; omega
  have HL0b := Lib.hid hs0b
  clear hs0b
  obtain ⟨a0c, n0c, c0c, rfl⟩ := hs0c.here.shape
  have HE0c := Lib.hid hs0c.here.len
  have hn0c : n0c ≤ 1001 := by have := HE0c.out; omega
  have HL0c := Lib.hid hs0c
  clear hs0c
  obtain ⟨a0d, n0d, c0d, rfl⟩ := hs0d.here.shape
  have HE0d := Lib.hid hs0d.here.len
  have hn0d : n0d ≤ 1001 := by have := HE0d.out; omega
  have HL0d := Lib.hid hs0d
  clear hs0d
  obtain ⟨a0e, n0e, c0e, rfl⟩ := hs0e.here.shape
  have HE0e := Lib.hid hs0e.here.len
  have hn0e : n0e ≤ 1001 := by have := HE0e.out; omega
  have HL0e := Lib.hid hs0e
  clear hs0e
  obtain ⟨U, hU⟩ : ∃ U, U = (R1.alloc (.cells #[.int .i64 P, .int .i64 Q, .int .i64 G] 39)).alloc (.cells #[.int .i64 h0b, .slice a0b n0b c0b] 79) := ⟨_, rfl⟩
  have hbU : Below R1.heap.size R1 U := by rw [hU]; (repeat (first | exact Below.refl _ _ | assumption | refine Below.drew ?_ | refine Below.alloc ?_ (by first | (simp; done) | (simp; omega)) _ | refine Below.setCell ?_ (by first | (simp; done) | (simp; omega)) _))
  have hsU : U.heap.size = R1.heap.size + 2 := by rw [hU]; simp
  have HLb0 : Hid (BoxN U R1.heap.size 39 [.int .i64 P, .int .i64 Q, .int .i64 G]) := by unfold Hid; rw [hU]; have h := ((BoxN.new R1 [.int .i64 P, .int .i64 Q, .int .i64 G] 39).alloc (.cells #[.int .i64 h0b, .slice a0b n0b c0b] 79)); simpa using h
  have HLb1 : Hid (BoxN U (R1.heap.size + 1) 79 [.int .i64 h0b, .slice a0b n0b c0b]) := by unfold Hid; rw [hU]; have h := (BoxN.new (R1.alloc (.cells #[.int .i64 P, .int .i64 Q, .int .i64 G] 39)) [.int .i64 h0b, .slice a0b n0b c0b] 79); simpa using h
  replace HX0 := Lib.hid (HX0.out.below hbU)
  replace HX1 := Lib.hid (HX1.out.below hbU)
  replace HX2 := Lib.hid (HX2.out.below hbU)
  have hr0 : R0.heap.size ≤ R1.heap.size := hs1
  have hwg : w.heap.size + 3 ≤ R0.heap.size := by omega
  replace HL0b : Hid (SinceT R0.heap.size U.heap.size U _) := SinceT.of HL0b.out hbU (by omega)
  replace HL0c : Hid (SinceT R0.heap.size U.heap.size U _) := SinceT.of HL0c.out hbU (by omega)
  replace HL0d : Hid (SinceT R0.heap.size U.heap.size U _) := SinceT.of HL0d.out hbU (by omega)
  replace HL0e : Hid (SinceT R0.heap.size U.heap.size U _) := SinceT.of HL0e.out hbU (by omega)
  replace HY := Lib.hid (HY.out.below hbU)
  replace HBW := Lib.hid (Below.next HBW.out hbU)
  clear hbU
  obtain ⟨W, hW⟩ : ∃ W, W = U.alloc (.cells #[.slice a m c, .int .i64 0, .int .u64 0] 170) := ⟨_, rfl⟩
  have HC : Hid (Cur U W U.heap.size 0) := by unfold Hid; rw [hW]; exact Cur.new U HY.out
  have hbW : Below U.heap.size U W := by rw [hW]; exact (Below.refl _ _).alloc (Nat.le_refl _) _
  replace HBW := Lib.hid (Below.next HBW.out hbW)
  have HUB := Lib.hid hbW
  replace HX0 := Lib.hid (HX0.out.below hbW)
  replace HX1 := Lib.hid (HX1.out.below hbW)
  replace HX2 := Lib.hid (HX2.out.below hbW)
  replace HLb0 := Lib.hid (HLb0.out.below hbW)
  replace HLb1 := Lib.hid (HLb1.out.below hbW)
  replace HL0b := Lib.hid (HL0b.out.below hbW)
  replace HL0c := Lib.hid (HL0c.out.below hbW)
  replace HL0d := Lib.hid (HL0d.out.below hbW)
  replace HL0e := Lib.hid (HL0e.out.below hbW)
  have lz_HLb0_0 := HLb0.out.cell (i := 0) rfl
  have lz_HLb0_1 := HLb0.out.cell (i := 1) rfl
  have lz_HLb0_2 := HLb0.out.cell (i := 2) rfl
  have lz_HLb1_0 := HLb1.out.cell (i := 0) rfl
  have lz_HLb1_1 := HLb1.out.cell (i := 1) rfl
  have hsW1 : W.heap.size = U.heap.size + 1 := by rw [hW]; simp
  go_wp2_with fail
  rw [← hU, ← hW]
  clear hU hW lz_HLb0_0 lz_HLb0_1 lz_HLb0_2 lz_HLb1_0 lz_HLb1_1
  obtain ⟨g, hg⟩ : ∃ g, g = U.heap.size := ⟨_, rfl⟩
  (try rw [show R1.heap.size + 1 + 1 = g by omega])
  (try rw [← hg])
  rw [← hg] at HC HUB
  have HWS : Hid (W.heap.size = g + 1) := by unfold Hid; omega
  have HUS : Hid (U.heap.size = g) := hg.symm
  have HW := Lib.hid (Within.refl g (g + 1) W)
  have HUC : Hid (Below U.heap.size U W) := by unfold Hid; rw [HUS.out]; exact HUB.out
  have hgl : R1.heap.size + 1 < g := by omega
  have hgU : U.heap.size ≤ g := by omega
  have hgW : g < W.heap.size := by omega
  clear hg hsW1 hsU hbW
  have z_0_0 := HX0.out.cell (i := 0) rfl
  have z_0_1 := HX0.out.cell (i := 1) rfl
  have z_0_2 := HX0.out.cell (i := 2) rfl
  have z_1_0 := HX1.out.cell (i := 0) rfl
  have z_1_1 := HX1.out.cell (i := 1) rfl
  have z_2_0 := HX2.out.cell (i := 0) rfl
  have z_2_1 := HX2.out.cell (i := 1) rfl
  have z_2_2 := HX2.out.cell (i := 2) rfl
  have z_3_0 := HLb0.out.cell (i := 0) rfl
  have z_3_1 := HLb0.out.cell (i := 1) rfl
  have z_3_2 := HLb0.out.cell (i := 2) rfl
  have z_4_0 := HLb1.out.cell (i := 0) rfl
  have z_4_1 := HLb1.out.cell (i := 1) rfl
  try (go_wp2_with fail)
  clear z_0_0 z_0_1 z_0_2 z_1_0 z_1_1 z_2_0 z_2_1 z_2_2 z_3_0 z_3_1 z_3_2 z_4_0 z_4_1
  refine (spec_ProveSum ⟨P, Q, G⟩ h0b _ l0b _ l0c _ l0d _ l0e _ HL0b.out.here ⟨by omega, by omega⟩ HL0c.out.here HL0d.out.here HL0e.out.here).mono ?_
  rintro e u1 ⟨⟨v1a, v1b, v1c, rfl, o1a, o1b, o1c⟩, hb⟩
  obtain ⟨n1a, n1b, n1c⟩ := psR_len ⟨P, Q, G⟩ sSum h0b l0b l0c l0d l0e
  obtain ⟨q1q, hq1q⟩ : ∃ r, psB ⟨P, Q, G⟩ h0b l0b l0c l0d l0e = r := ⟨_, rfl⟩
  have Hq1q := Lib.hid hq1q
  rw [hq1q]
  clear hq1q
  obtain ⟨l1a, hl1a⟩ : ∃ l, (psR ⟨P, Q, G⟩ sSum h0b l0b l0c l0d l0e).c = l := ⟨_, rfl⟩
  rw [hl1a] at o1a n1a
  clear hl1a
  obtain ⟨a1a, n1a_, c1a, rfl⟩ := o1a.ints.shape
  have HE1a := Lib.hid o1a.ints.len
  have HL1a : Hid (Since W.heap.size u1 (fun z => Ints z (.slice a1a n1a_ c1a) l1a)) := Since.of_ownI o1a (Nat.le_refl _)
  clear o1a
  obtain ⟨l1b, hl1b⟩ : ∃ l, (psR ⟨P, Q, G⟩ sSum h0b l0b l0c l0d l0e).h = l := ⟨_, rfl⟩
  rw [hl1b] at o1b n1b
  clear hl1b
  obtain ⟨a1b, n1b_, c1b, rfl⟩ := o1b.ints.shape
  have HE1b := Lib.hid o1b.ints.len
  have HL1b : Hid (Since W.heap.size u1 (fun z => Ints z (.slice a1b n1b_ c1b) l1b)) := Since.of_ownI o1b (Nat.le_refl _)
  clear o1b
  obtain ⟨l1c, hl1c⟩ : ∃ l, (psR ⟨P, Q, G⟩ sSum h0b l0b l0c l0d l0e).r = l := ⟨_, rfl⟩
  rw [hl1c] at o1c n1c
  clear hl1c
  obtain ⟨a1c, n1c_, c1c, rfl⟩ := o1c.ints.shape
  have HE1c := Lib.hid o1c.ints.len
  have HL1c : Hid (Since W.heap.size u1 (fun z => Ints z (.slice a1c n1c_ c1c) l1c)) := Since.of_ownI o1c (Nat.le_refl _)
  clear o1c
  have hsz1 := hb.size
  replace HX0 := Lib.hid (HX0.out.below hb)
  replace HX1 := Lib.hid (HX1.out.below hb)
  replace HX2 := Lib.hid (HX2.out.below hb)
  replace HLb0 := Lib.hid (HLb0.out.below hb)
  replace HLb1 := Lib.hid (HLb1.out.below hb)
  replace HL0b := Lib.hid (HL0b.out.below hb)
  replace HL0c := Lib.hid (HL0c.out.below hb)
  replace HL0d := Lib.hid (HL0d.out.below hb)
  replace HL0e := Lib.hid (HL0e.out.below hb)
  replace HW := Lib.hid (HW.out.trans (Within.of_below hb))
  replace HC := Lib.hid (HC.out.keep hb)
  clear hb
  cases q1q with
  | false =>
    have z_0_0 := HX0.out.cell (i := 0) rfl
    have z_0_1 := HX0.out.cell (i := 1) rfl
    have z_0_2 := HX0.out.cell (i := 2) rfl
    have z_1_0 := HX1.out.cell (i := 0) rfl
    have z_1_1 := HX1.out.cell (i := 1) rfl
    have z_2_0 := HX2.out.cell (i := 0) rfl
    have z_2_1 := HX2.out.cell (i := 1) rfl
    have z_2_2 := HX2.out.cell (i := 2) rfl
    have z_3_0 := HLb0.out.cell (i := 0) rfl
    have z_3_1 := HLb0.out.cell (i := 1) rfl
    have z_3_2 := HLb0.out.cell (i := 2) rfl
    have z_4_0 := HLb1.out.cell (i := 0) rfl
    have z_4_1 := HLb1.out.cell (i := 1) rfl
    have lt_HX0 := HX0.out.lt
    have lt_HX1 := HX1.out.lt
    have lt_HX2 := HX2.out.lt
    have lt_HLb0 := HLb0.out.lt
    have lt_HLb1 := HLb1.out.lt
    obtain ⟨V2, hV⟩ : ∃ V, V = u1.alloc (.cells #[.slice a1a n1a_ c1a, .slice a1b n1b_ c1b, .slice a1c n1c_ c1c] 42) := ⟨_, rfl⟩
    have hbV : Below u1.heap.size u1 V2 := by rw [hV]; (repeat (first | exact Below.refl _ _ | assumption | refine Below.drew ?_ | refine Below.alloc ?_ (by first | (simp; done) | (simp; omega)) _ | refine Below.setCell ?_ (by first | (simp; done) | (simp; omega)) _))
    have HZ1 : Hid (BoxN V2 u1.heap.size 42 [.slice a1a n1a_ c1a, .slice a1b n1b_ c1b, .slice a1c n1c_ c1c]) := by unfold Hid; rw [hV]; have h := (BoxN.new u1 [.slice a1a n1a_ c1a, .slice a1b n1b_ c1b, .slice a1c n1c_ c1c] 42); simpa using h
    have hgc : g < u1.heap.size := HC.out.lt
    go_wp2_with fail
    rw [← hV]
    have hsV2 : V2.heap.size = u1.heap.size + 1 := by rw [hV]; simp
    clear hV hgc
    replace HX0 := Lib.hid (HX0.out.below hbV)
    replace HX1 := Lib.hid (HX1.out.below hbV)
    replace HX2 := Lib.hid (HX2.out.below hbV)
    replace HLb0 := Lib.hid (HLb0.out.below hbV)
    replace HLb1 := Lib.hid (HLb1.out.below hbV)
    replace HL0b := Lib.hid (HL0b.out.below hbV)
    replace HL0c := Lib.hid (HL0c.out.below hbV)
    replace HL0d := Lib.hid (HL0d.out.below hbV)
    replace HL0e := Lib.hid (HL0e.out.below hbV)
    replace HL1a := Lib.hid (HL1a.out.below hbV)
    replace HL1b := Lib.hid (HL1b.out.below hbV)
    replace HL1c := Lib.hid (HL1c.out.below hbV)
    replace HW := Lib.hid (HW.out.trans (Within.of_below hbV))
    replace HC := Lib.hid (HC.out.keep hbV)
    clear hbV
    clear z_0_0 z_0_1 z_0_2 z_1_0 z_1_1 z_2_0 z_2_1 z_2_2 z_3_0 z_3_1 z_3_2 z_4_0 z_4_1
    clear lt_HX0
    clear lt_HX1
    clear lt_HX2
    clear lt_HLb0
    clear lt_HLb1
    have z_0_0 := HX0.out.cell (i := 0) rfl
    have z_0_1 := HX0.out.cell (i := 1) rfl
    have z_0_2 := HX0.out.cell (i := 2) rfl
    have z_1_0 := HX1.out.cell (i := 0) rfl
    have z_1_1 := HX1.out.cell (i := 1) rfl
    have z_2_0 := HX2.out.cell (i := 0) rfl
    have z_2_1 := HX2.out.cell (i := 1) rfl
    have z_2_2 := HX2.out.cell (i := 2) rfl
    have z_3_0 := HLb0.out.cell (i := 0) rfl
    have z_3_1 := HLb0.out.cell (i := 1) rfl
    have z_3_2 := HLb0.out.cell (i := 2) rfl
    have z_4_0 := HLb1.out.cell (i := 0) rfl
    have z_4_1 := HLb1.out.cell (i := 1) rfl
    have z_5_0 := HZ1.out.cell (i := 0) rfl
    have z_5_1 := HZ1.out.cell (i := 1) rfl
    have z_5_2 := HZ1.out.cell (i := 2) rfl
    clear z_0_0
    clear z_0_1
    clear z_0_2
    clear z_1_0
    clear z_1_1
    clear z_2_0
    clear z_2_1
    clear z_2_2
    refine wp_region_noPanic ?_
    refine wp_region_V (fun w' => w'.cell? ⟨R1.heap.size, 0, none⟩ = some (.int .i64 P) ∧ w'.cell? ⟨R1.heap.size, 1, none⟩ = some (.int .i64 Q) ∧ w'.cell? ⟨R1.heap.size, 2, none⟩ = some (.int .i64 G) ∧ w'.cell? ⟨R1.heap.size + 1, 0, none⟩ = some (.int .i64 h0b) ∧ w'.cell? ⟨R1.heap.size + 1, 1, none⟩ = some (.slice a0b n0b c0b) ∧ w'.cell? ⟨u1.heap.size, 0, none⟩ = some (.slice a1a n1a_ c1a) ∧ w'.cell? ⟨u1.heap.size, 1, none⟩ = some (.slice a1b n1b_ c1b) ∧ w'.cell? ⟨u1.heap.size, 2, none⟩ = some (.slice a1c n1c_ c1c)) 16 14 (.rd 0 (.rd 1 (.rd 2 (.rd 3 (.rd 5 (.rd 6 (.rd 8 (.alt 4 (.alt 7 (.alt 9 (.alt 10 (.alt 11 (.alt 12 (.alt 13 .done .nil) .nil) .nil) .nil) .nil) .nil) .nil)))))))) [] (by kernel_rfl) (by kernel_rfl) rfl (fun _ _ _ _ _ h => h) ⟨box_at z_3_0 (Below.refl _ _).drew, box_at z_3_1 (Below.refl _ _).drew, box_at z_3_2 (Below.refl _ _).drew, box_at z_4_0 (Below.refl _ _).drew, box_at z_4_1 (Below.refl _ _).drew, box_at z_5_0 (Below.refl _ _).drew, box_at z_5_1 (Below.refl _ _).drew, box_at z_5_2 (Below.refl _ _).drew⟩ ?_
    simp only [pickV, pickN, List.getElem?_cons_zero, List.getElem?_cons_succ]
    repeat (refine' wpV_read _ (by kernel_rfl) (fun w' hS' => ?_) ?_; rotate_left; · ((try dsimp only at hS'); go_simp; (try with_reducible rfl)); (try simp only [Act.put, List.setIfInBounds_toArray, List.set_cons_zero, List.set_cons_succ]))
    have hdr : Below V2.heap.size V2 V2.drew := (Below.refl _ _).drew
    have hszd := hdr.size
    replace HX0 := Lib.hid (HX0.out.below hdr)
    replace HX1 := Lib.hid (HX1.out.below hdr)
    replace HX2 := Lib.hid (HX2.out.below hdr)
    replace HLb0 := Lib.hid (HLb0.out.below hdr)
    replace HLb1 := Lib.hid (HLb1.out.below hdr)
    replace HZ1 := Lib.hid (HZ1.out.below hdr)
    replace HL0b := Lib.hid (HL0b.out.below hdr)
    replace HL0c := Lib.hid (HL0c.out.below hdr)
    replace HL0d := Lib.hid (HL0d.out.below hdr)
    replace HL0e := Lib.hid (HL0e.out.below hdr)
    replace HL1a := Lib.hid (HL1a.out.below hdr)
    replace HL1b := Lib.hid (HL1b.out.below hdr)
    replace HL1c := Lib.hid (HL1c.out.below hdr)
    replace HW := Lib.hid (HW.out.trans (Within.of_below hdr))
    replace HC := Lib.hid (HC.out.keep hdr)
    clear hdr
    refine wpV_do (by kernel_rfl) (fun K hK => ?_)
    -- 4: call
    go_simp
    go_at_call 181
    refine (spec_elements U g _ P Q G 3 _ HC.out (HW.out.belowOf HUC.out (Nat.le_of_eq HUS.out)) (by omega) HGR.out (by omega)).mono ?_
    rintro e ut1 ⟨⟨vt1, rfl, lt1, hst1, hlt1⟩, hc, hw⟩
    have HLt1 := Lib.hid hst1
    obtain ⟨at1, nt1, ct1, rfl⟩ := hst1.here.shape
    have hnt1 : nt1 ≤ 60 := by have h1 := hst1.here.len; omega
    have HEt1 := Lib.hid hst1.here.len
    clear hst1
    have hszt1 := hw.size
    replace HX0 := Lib.hid (HX0.out.kept hw (.inl (by omega)))
    replace HX1 := Lib.hid (HX1.out.kept hw (.inl (by omega)))
    replace HX2 := Lib.hid (HX2.out.kept hw (.inl (by omega)))
    replace HLb0 := Lib.hid (HLb0.out.kept hw (.inl (by omega)))
    replace HLb1 := Lib.hid (HLb1.out.kept hw (.inl (by omega)))
    replace HZ1 := Lib.hid (HZ1.out.kept hw (.inr (by omega)))
    replace HL0b := Lib.hid (HL0b.out.within hw (by omega))
    replace HL0c := Lib.hid (HL0c.out.within hw (by omega))
    replace HL0d := Lib.hid (HL0d.out.within hw (by omega))
    replace HL0e := Lib.hid (HL0e.out.within hw (by omega))
    replace HL1a := Lib.hid (HL1a.out.within hw (by omega))
    replace HL1b := Lib.hid (HL1b.out.within hw (by omega))
    replace HL1c := Lib.hid (HL1c.out.within hw (by omega))
    replace HW := Lib.hid (HW.out.trans hw)
    replace HC := Lib.hid hc
    clear hc hw
    clear z_3_0 z_3_1 z_3_2 z_4_0 z_4_1 z_5_0 z_5_1 z_5_2
    have z_3_0 := HLb0.out.cell (i := 0) rfl
    have z_3_1 := HLb0.out.cell (i := 1) rfl
    have z_3_2 := HLb0.out.cell (i := 2) rfl
    have z_4_0 := HLb1.out.cell (i := 0) rfl
    have z_4_1 := HLb1.out.cell (i := 1) rfl
    have z_5_0 := HZ1.out.cell (i := 0) rfl
    have z_5_1 := HZ1.out.cell (i := 1) rfl
    have z_5_2 := HZ1.out.cell (i := 2) rfl
    refine hK.out _ _ ⟨z_3_0, z_3_1, z_3_2, z_4_0, z_4_1, z_5_0, z_5_1, z_5_2⟩ (fun _ => ?_)
    clear hK K
    (try simp only [Act.put, List.setIfInBounds_toArray, List.set_cons_zero, List.set_cons_succ])
    refine wpV_do (by kernel_rfl) (fun K hK => ?_)
    -- 7: call
    go_simp
    go_at_call 147
    refine (spec_anyExpo U g _ P Q G _ HC.out (HW.out.belowOf HUC.out (Nat.le_of_eq HUS.out)) (by omega) HGR.out).mono ?_
    rintro e ut2 ⟨⟨xt2, rfl, xt2l, xt2u⟩, hc, hw⟩
    have hszt2 := hw.size
    replace HX0 := Lib.hid (HX0.out.kept hw (.inl (by omega)))
    replace HX1 := Lib.hid (HX1.out.kept hw (.inl (by omega)))
    replace HX2 := Lib.hid (HX2.out.kept hw (.inl (by omega)))
    replace HLb0 := Lib.hid (HLb0.out.kept hw (.inl (by omega)))
    replace HLb1 := Lib.hid (HLb1.out.kept hw (.inl (by omega)))
    replace HZ1 := Lib.hid (HZ1.out.kept hw (.inr (by omega)))
    replace HL0b := Lib.hid (HL0b.out.within hw (by omega))
    replace HL0c := Lib.hid (HL0c.out.within hw (by omega))
    replace HL0d := Lib.hid (HL0d.out.within hw (by omega))
    replace HL0e := Lib.hid (HL0e.out.within hw (by omega))
    replace HL1a := Lib.hid (HL1a.out.within hw (by omega))
    replace HL1b := Lib.hid (HL1b.out.within hw (by omega))
    replace HL1c := Lib.hid (HL1c.out.within hw (by omega))
    replace HLt1 := Lib.hid (HLt1.out.within hw (by omega))
    replace HW := Lib.hid (HW.out.trans hw)
    replace HC := Lib.hid hc
    clear hc hw
    clear z_3_0 z_3_1 z_3_2 z_4_0 z_4_1 z_5_0 z_5_1 z_5_2
    have z_3_0 := HLb0.out.cell (i := 0) rfl
    have z_3_1 := HLb0.out.cell (i := 1) rfl
    have z_3_2 := HLb0.out.cell (i := 2) rfl
    have z_4_0 := HLb1.out.cell (i := 0) rfl
    have z_4_1 := HLb1.out.cell (i := 1) rfl
    have z_5_0 := HZ1.out.cell (i := 0) rfl
    have z_5_1 := HZ1.out.cell (i := 1) rfl
    have z_5_2 := HZ1.out.cell (i := 2) rfl
    refine hK.out _ _ ⟨z_3_0, z_3_1, z_3_2, z_4_0, z_4_1, z_5_0, z_5_1, z_5_2⟩ (fun _ => ?_)
    clear hK K
    (try simp only [Act.put, List.setIfInBounds_toArray, List.set_cons_zero, List.set_cons_succ])
    refine wpV_do (by kernel_rfl) (fun K hK => ?_)
    -- 9: store
    have r0 := HX0.out.cell (i := 0) rfl
    have r1 := HX0.out.cell (i := 1) rfl
    have r2 := HX0.out.cell (i := 2) rfl
    have fr := fun j => HX0.out.frozen j
    obtain ⟨Y3, hY⟩ : ∃ Y, Y = ((ut2.setCell ⟨w.heap.size, 0, none⟩ (.int .i64 P)).setCell ⟨w.heap.size, 1, none⟩ (.int .i64 Q)).setCell ⟨w.heap.size, 2, none⟩ (.int .i64 G) := ⟨_, rfl⟩
    have hYl : Within (w.heap.size) (w.heap.size + 1) ut2 Y3 := by rw [hY]; exact ((((Within.refl (w.heap.size) (w.heap.size + 1) ut2).setCell (b := w.heap.size) (by omega) (by omega) 0 (.int .i64 P)).setCell (b := w.heap.size) (by omega) (by omega) 1 (.int .i64 Q)).setCell (b := w.heap.size) (by omega) (by omega) 2 (.int .i64 G))
    have HYW : Hid (Within w.heap.size (w.heap.size + 3) ut2 Y3) := hYl.mono (by omega) (by omega)
    have HYB : Hid (Below w.heap.size w Y3) := hYl.belowU (HW.out.belowOf HBW.out (by omega)) (by omega)
    have HCS : Hid (∀ w', Within w.heap.size (w.heap.size + 3) ut2 w' → w'.cell? ⟨R1.heap.size, 0, none⟩ = some (.int .i64 P) ∧ w'.cell? ⟨R1.heap.size, 1, none⟩ = some (.int .i64 Q) ∧ w'.cell? ⟨R1.heap.size, 2, none⟩ = some (.int .i64 G) ∧ w'.cell? ⟨R1.heap.size + 1, 0, none⟩ = some (.int .i64 h0b) ∧ w'.cell? ⟨R1.heap.size + 1, 1, none⟩ = some (.slice a0b n0b c0b) ∧ w'.cell? ⟨u1.heap.size, 0, none⟩ = some (.slice a1a n1a_ c1a) ∧ w'.cell? ⟨u1.heap.size, 1, none⟩ = some (.slice a1b n1b_ c1b) ∧ w'.cell? ⟨u1.heap.size, 2, none⟩ = some (.slice a1c n1c_ c1c)) := fun w' h => ⟨within_at h z_3_0 (by omega), within_at h z_3_1 (by omega), within_at h z_3_2 (by omega), within_at h z_4_0 (by omega), within_at h z_4_1 (by omega), within_at h z_5_0 (by omega), within_at h z_5_1 (by omega), within_at h z_5_2 (by omega)⟩
    go_simp
    refine hK.out _ _ ?_ (fun _ => ?_)
    · rw [← hY]; exact HCS.out _ HYW.out
    rw [← hY]
    clear hK K fr r0 r1 r2
    replace HX0 : Hid (BoxN Y3 w.heap.size 39 [.int .i64 P, .int .i64 Q, .int .i64 G]) := by unfold Hid; rw [hY]; exact (((HX0.out.set 0 (.int .i64 P)).set 1 (.int .i64 Q)).set 2 (.int .i64 G))
    replace HX1 := Lib.hid (HX1.out.kept hYl (by omega))
    replace HX2 := Lib.hid (HX2.out.kept hYl (by omega))
    clear hY hYl
    (try simp only [Act.put, List.setIfInBounds_toArray, List.set_cons_zero, List.set_cons_succ])
    clear z_3_0 z_3_1 z_3_2 z_4_0 z_4_1 z_5_0 z_5_1 z_5_2
    obtain ⟨z_3_0, z_3_1, z_3_2, z_4_0, z_4_1, z_5_0, z_5_1, z_5_2⟩ := HCS.out _ HYW.out
    refine wpV_do (by kernel_rfl) (fun K hK => ?_)
    -- 10: store
    have r0 := HX1.out.cell (i := 0) rfl
    have r1 := HX1.out.cell (i := 1) rfl
    have fr := fun j => HX1.out.frozen j
    obtain ⟨Y4, hY⟩ : ∃ Y, Y = (Y3.setCell ⟨w.heap.size + 1, 0, none⟩ (.int .i64 h0b)).setCell ⟨w.heap.size + 1, 1, none⟩ (.slice a0b n0b c0b) := ⟨_, rfl⟩
    have hYl : Within (w.heap.size + 1) (w.heap.size + 1 + 1) Y3 Y4 := by rw [hY]; exact (((Within.refl (w.heap.size + 1) (w.heap.size + 1 + 1) Y3).setCell (b := w.heap.size + 1) (by omega) (by omega) 0 (.int .i64 h0b)).setCell (b := w.heap.size + 1) (by omega) (by omega) 1 (.slice a0b n0b c0b))
    replace HYW := Lib.hid (HYW.out.trans (hYl.mono (by omega) (by omega)))
    replace HYB := Lib.hid (hYl.belowU HYB.out (by omega))
    go_simp
    refine hK.out _ _ ?_ (fun _ => ?_)
    · rw [← hY]; exact HCS.out _ HYW.out
    rw [← hY]
    clear hK K fr r0 r1
    replace HX1 : Hid (BoxN Y4 (w.heap.size + 1) 79 [.int .i64 h0b, .slice a0b n0b c0b]) := by unfold Hid; rw [hY]; exact ((HX1.out.set 0 (.int .i64 h0b)).set 1 (.slice a0b n0b c0b))
    replace HX0 := Lib.hid (HX0.out.kept hYl (by omega))
    replace HX2 := Lib.hid (HX2.out.kept hYl (by omega))
    clear hY hYl
    (try simp only [Act.put, List.setIfInBounds_toArray, List.set_cons_zero, List.set_cons_succ])
    clear z_3_0 z_3_1 z_3_2 z_4_0 z_4_1 z_5_0 z_5_1 z_5_2
    obtain ⟨z_3_0, z_3_1, z_3_2, z_4_0, z_4_1, z_5_0, z_5_1, z_5_2⟩ := HCS.out _ HYW.out
    refine wpV_do (by kernel_rfl) (fun K hK => ?_)
    -- 11: load
    go_simp
    refine hK.out _ _ ⟨z_3_0, z_3_1, z_3_2, z_4_0, z_4_1, z_5_0, z_5_1, z_5_2⟩ (fun _ => ?_)
    clear hK K
    (try simp only [Act.put, List.setIfInBounds_toArray, List.set_cons_zero, List.set_cons_succ])
    refine wpV_do (by kernel_rfl) (fun K hK => ?_)
    -- 12: load
    go_simp
    refine hK.out _ _ ⟨z_3_0, z_3_1, z_3_2, z_4_0, z_4_1, z_5_0, z_5_1, z_5_2⟩ (fun _ => ?_)
    clear hK K
    (try simp only [Act.put, List.setIfInBounds_toArray, List.set_cons_zero, List.set_cons_succ])
    refine wpV_do (by kernel_rfl) (fun K hK => ?_)
    -- 13: store
    have r0 := HX2.out.cell (i := 0) rfl
    have r1 := HX2.out.cell (i := 1) rfl
    have r2 := HX2.out.cell (i := 2) rfl
    have fr := fun j => HX2.out.frozen j
    obtain ⟨Y5, hY⟩ : ∃ Y, Y = ((Y4.setCell ⟨w.heap.size + 1 + 1, 0, none⟩ (.slice a1a n1a_ c1a)).setCell ⟨w.heap.size + 1 + 1, 1, none⟩ (.slice a1b n1b_ c1b)).setCell ⟨w.heap.size + 1 + 1, 2, none⟩ (.slice a1c n1c_ c1c) := ⟨_, rfl⟩
    have hYl : Within (w.heap.size + 1 + 1) (w.heap.size + 1 + 1 + 1) Y4 Y5 := by rw [hY]; exact ((((Within.refl (w.heap.size + 1 + 1) (w.heap.size + 1 + 1 + 1) Y4).setCell (b := w.heap.size + 1 + 1) (by omega) (by omega) 0 (.slice a1a n1a_ c1a)).setCell (b := w.heap.size + 1 + 1) (by omega) (by omega) 1 (.slice a1b n1b_ c1b)).setCell (b := w.heap.size + 1 + 1) (by omega) (by omega) 2 (.slice a1c n1c_ c1c))
    replace HYW := Lib.hid (HYW.out.trans (hYl.mono (by omega) (by omega)))
    replace HYB := Lib.hid (hYl.belowU HYB.out (by omega))
    go_simp
    refine hK.out _ _ ?_ (fun _ => ?_)
    · rw [← hY]; exact HCS.out _ HYW.out
    rw [← hY]
    clear hK K fr r0 r1 r2
    replace HX2 : Hid (BoxN Y5 (w.heap.size + 1 + 1) 42 [.slice a1a n1a_ c1a, .slice a1b n1b_ c1b, .slice a1c n1c_ c1c]) := by unfold Hid; rw [hY]; exact (((HX2.out.set 0 (.slice a1a n1a_ c1a)).set 1 (.slice a1b n1b_ c1b)).set 2 (.slice a1c n1c_ c1c))
    replace HX0 := Lib.hid (HX0.out.kept hYl (by omega))
    replace HX1 := Lib.hid (HX1.out.kept hYl (by omega))
    clear hY hYl
    (try simp only [Act.put, List.setIfInBounds_toArray, List.set_cons_zero, List.set_cons_succ])
    clear z_3_0 z_3_1 z_3_2 z_4_0 z_4_1 z_5_0 z_5_1 z_5_2
    obtain ⟨z_3_0, z_3_1, z_3_2, z_4_0, z_4_1, z_5_0, z_5_1, z_5_2⟩ := HCS.out _ HYW.out
    refine wpV_done ?_
    go_wp2_with fail
    refine NoPanic.normal ?_
    clear z_3_0 z_3_1 z_3_2 z_4_0 z_4_1 z_5_0 z_5_1 z_5_2
    have t_HX0_0 := HX0.out.cell (i := 0) rfl
    have t_HX0_1 := HX0.out.cell (i := 1) rfl
    have t_HX0_2 := HX0.out.cell (i := 2) rfl
    have t_HX1_0 := HX1.out.cell (i := 0) rfl
    have t_HX1_1 := HX1.out.cell (i := 1) rfl
    have t_HX2_0 := HX2.out.cell (i := 0) rfl
    have t_HX2_1 := HX2.out.cell (i := 1) rfl
    have t_HX2_2 := HX2.out.cell (i := 2) rfl
    try (go_wp2_with fail)
    refine bodyPost_ret (v := .tuple #[.agg #[.int .i64 P, .int .i64 Q, .int .i64 G], .agg #[.int .i64 h0b, .slice a0b n0b c0b], .slice at1 nt1 ct1, .int .i64 xt2, .agg #[.slice a1a n1a_ c1a, .slice a1b n1b_ c1b, .slice a1c n1c_ c1c]]) (by simp [results, Try.results88, go_sem, t_HX0_0, t_HX0_1, t_HX0_2, t_HX1_0, t_HX1_1, t_HX2_0, t_HX2_1, t_HX2_2]) rfl ⟨⟨_, _, _, _, _, _, _, _, _, _, _, _, _, _, _, rfl, HGR.out, ⟨⟨by omega, by omega⟩, (HL0b.out.within HYW.out (by omega)).here, by have := HE0b.out; omega⟩, ⟨(HLt1.out.within HYW.out (by omega)).here, by have := HEt1.out; omega⟩, ⟨by omega, by omega⟩, ⟨⟨(HL1a.out.within HYW.out (by omega)).here, by have := HE1a.out; omega⟩, ⟨(HL1b.out.within HYW.out (by omega)).here, by have := HE1b.out; omega⟩, ⟨(HL1c.out.within HYW.out (by omega)).here, by have := HE1c.out; omega⟩⟩⟩, HYB.out⟩
  | true =>
    have z_0_0 := HX0.out.cell (i := 0) rfl
    have z_0_1 := HX0.out.cell (i := 1) rfl
    have z_0_2 := HX0.out.cell (i := 2) rfl
    have z_1_0 := HX1.out.cell (i := 0) rfl
    have z_1_1 := HX1.out.cell (i := 1) rfl
    have z_2_0 := HX2.out.cell (i := 0) rfl
    have z_2_1 := HX2.out.cell (i := 1) rfl
    have z_2_2 := HX2.out.cell (i := 2) rfl
    have z_3_0 := HLb0.out.cell (i := 0) rfl
    have z_3_1 := HLb0.out.cell (i := 1) rfl
    have z_3_2 := HLb0.out.cell (i := 2) rfl
    have z_4_0 := HLb1.out.cell (i := 0) rfl
    have z_4_1 := HLb1.out.cell (i := 1) rfl
    have lt_HX0 := HX0.out.lt
    have lt_HX1 := HX1.out.lt
    have lt_HX2 := HX2.out.lt
    have lt_HLb0 := HLb0.out.lt
    have lt_HLb1 := HLb1.out.lt
    obtain ⟨V2, hV⟩ : ∃ V, V = u1.alloc (.cells #[.slice a1a n1a_ c1a, .slice a1b n1b_ c1b, .slice a1c n1c_ c1c] 42) := ⟨_, rfl⟩
    have hbV : Below u1.heap.size u1 V2 := by rw [hV]; (repeat (first | exact Below.refl _ _ | assumption | refine Below.drew ?_ | refine Below.alloc ?_ (by first | (simp; done) | (simp; omega)) _ | refine Below.setCell ?_ (by first | (simp; done) | (simp; omega)) _))
    have HZ1 : Hid (BoxN V2 u1.heap.size 42 [.slice a1a n1a_ c1a, .slice a1b n1b_ c1b, .slice a1c n1c_ c1c]) := by unfold Hid; rw [hV]; have h := (BoxN.new u1 [.slice a1a n1a_ c1a, .slice a1b n1b_ c1b, .slice a1c n1c_ c1c] 42); simpa using h
    have hgc : g < u1.heap.size := HC.out.lt
    go_wp2_with fail
    rw [← hV]
    have hsV2 : V2.heap.size = u1.heap.size + 1 := by rw [hV]; simp
    clear hV hgc
    replace HX0 := Lib.hid (HX0.out.below hbV)
    replace HX1 := Lib.hid (HX1.out.below hbV)
    replace HX2 := Lib.hid (HX2.out.below hbV)
    replace HLb0 := Lib.hid (HLb0.out.below hbV)
    replace HLb1 := Lib.hid (HLb1.out.below hbV)
    replace HL0b := Lib.hid (HL0b.out.below hbV)
    replace HL0c := Lib.hid (HL0c.out.below hbV)
    replace HL0d := Lib.hid (HL0d.out.below hbV)
    replace HL0e := Lib.hid (HL0e.out.below hbV)
    replace HL1a := Lib.hid (HL1a.out.below hbV)
    replace HL1b := Lib.hid (HL1b.out.below hbV)
    replace HL1c := Lib.hid (HL1c.out.below hbV)
    replace HW := Lib.hid (HW.out.trans (Within.of_below hbV))
    replace HC := Lib.hid (HC.out.keep hbV)
    clear hbV
    clear z_0_0 z_0_1 z_0_2 z_1_0 z_1_1 z_2_0 z_2_1 z_2_2 z_3_0 z_3_1 z_3_2 z_4_0 z_4_1
    clear lt_HX0
    clear lt_HX1
    clear lt_HX2
    clear lt_HLb0
    clear lt_HLb1
    have HPS := Lib.hid (psB_parts Hq1q.out)
    have HG := Lib.hid (goodG_ok (baB_parts HPS.out.1).1)
    have HSB : Hid (Small h0b) := elB_small HG.out (baB_parts HPS.out.1).2.1
    have zq1 : 2 ≤ Q := HG.out.q1
    have zq2 : Q ≤ P - 1 := HG.out.q2
    have zp2 : P ≤ 2000000000 := HG.out.p2
    have zq3 : Q ≤ 2000000000 := by omega
    have zq0 : 0 < Q := by omega
    have HBL := Lib.hid (exps_bd (gr := ⟨P, Q, G⟩) HPS.out.2.2.2.2.2.2.1)
    have HRL : Hid (n0c = n0d) := by have := HPS.out.2.2.2.1; have := HE0d.out; have := HE0c.out; unfold Hid; omega
    have HLU := HL0d
    have HRU := HL0c
    have HBU := HL0b
    go_loopg [15, 52] n0d (fun gh ov iv wr => ∃ (k : Nat) (lst : List Int), k + gh = n0d ∧ iv = .int .i64 k ∧ lst.length = k ∧ Hid (OwnI wr V2.heap.size ov lst) ∧ Below V2.heap.size V2 wr)
    case atStart => exact ⟨0, [], by omega, rfl, rfl, OwnI.nil _ _, Below.refl _ _⟩
    case round =>
      obtain ⟨k, lst, hkg, rfl, hlk, HOW, hbr⟩ := hrel
      obtain ⟨ao, co, hv⟩ := HOW.out.shape
      rw [hlk] at hv
      subst hv
      have HLK := Lib.hid hlk
      clear hlk
      by_cases hlt : k < n0d
      · obtain ⟨lb, lo, hla, hlc⟩ := HLU.out.here.at_ (by omega)
        obtain ⟨rb, ro, hra, hrc⟩ := HRU.out.here.at_ (by have := HRL.out; omega)
        have xl := box_at (hlc k hlt) hbr
        have yr := box_at (hrc k (by have := HRL.out; omega)) hbr
        have HXI : Hid (I64 (nth l0d k)) := nth_64 HLU.out.here k
        have HYI : Hid (I64 (nth l0c k)) := nth_64 HRU.out.here k
        have HLB : Hid (Ints wr (.slice a0b n0b c0b) l0b) := HBU.out.here.below hbr
        clear hlc hrc
        obtain ⟨x, hx⟩ : ∃ x, nth l0d k = x := ⟨_, rfl⟩
        obtain ⟨y, hy⟩ : ∃ y, nth l0c k = y := ⟨_, rfl⟩
        rw [hx] at xl HXI
        rw [hy] at yr HYI
        clear hx hy
        obtain ⟨z, hz⟩ : ∃ z, coM ⟨P, Q, G⟩ h0b x y = z := ⟨_, rfl⟩
        have HZ0 := Lib.hid hz
        have HZS : Hid (Small z) := by unfold Hid; rw [← hz]; exact coM_small HG.out _ _ _
        have HZI : Hid (I64 z) := small_64 HZS.out
        clear hz
        have hla' := hla
        have hra' := hra
        subst hla'
        subst hra'
        clear hla hra
        have b0 : (0 : Int) ≤ (k : Int) := by omega
        have bk1 : (k : Int) < (n0d : Int) := by omega
        have bk2 : (k : Int) < (n0c : Int) := by have := HRL.out; omega
        have hnk : k < n0c := by omega
        have hwk : IntKind.i64.wrap ((k : Int) + 1) = (k : Int) + 1 := IntWalk.i64_in _ (by omega)
        have c0 := box_at (HLb0.out.cell (i := 0) rfl) hbr
        have c1 := box_at (HLb0.out.cell (i := 1) rfl) hbr
        have c2 := box_at (HLb0.out.cell (i := 2) rfl) hbr
        have d0 := box_at (HLb1.out.cell (i := 0) rfl) hbr
        have d1 := box_at (HLb1.out.cell (i := 1) rfl) hbr
        have HBR := Lib.hid hbr
        clear hbr
        have hc : Below wr.heap.size wr wr := Below.refl _ _
        go_wp2_with fail
        try (go_wp2_with fail)
        refine wp_region_noPanic ?_
        refine wp_region_P (fun w' => w'.cell? ⟨R1.heap.size, 0, none⟩ = some (.int .i64 P) ∧ w'.cell? ⟨R1.heap.size, 1, none⟩ = some (.int .i64 Q) ∧ w'.cell? ⟨R1.heap.size, 2, none⟩ = some (.int .i64 G) ∧ w'.cell? ⟨R1.heap.size + 1, 0, none⟩ = some (.int .i64 h0b) ∧ w'.cell? ⟨R1.heap.size + 1, 1, none⟩ = some (.slice a0b n0b c0b) ∧ w'.cell? ⟨rb, ro + k, none⟩ = some (.int .i64 y)) 14 [(0, []), (1, []), (2, []), (3, []), (4, []), (5, []), (6, [1, 0]), (7, [0]), (8, [6, 5, 4, 0]), (9, [0])] [10, 11] (by kernel_rfl) (by kernel_rfl) (by kernel_rfl) rfl (fun _ _ _ _ h => h) (fun w' h => ⟨box_at c0 h, box_at c1 h, box_at c2 h, box_at d0 h, box_at d1 h, box_at yr h⟩) ?_
        simp only [pickP, pickN, List.getElem?_cons_zero, List.getElem?_cons_succ]
        iterate 8 (refine' chainP_read _ rfl rfl (fun w' hS' => ?_) ?_; rotate_left; · (simp only [lookP, allP, Act.put, List.getElem?_cons_zero, List.getElem?_cons_succ, List.setIfInBounds_toArray, List.set_cons_zero, List.set_cons_succ]; (try dsimp only at hS'); go_simp; (try with_reducible rfl)))
        -- 8: call { callee := value (func 173), args := #[t58, t59, t60, t64], argTypes := #[39, 79, 3, 3] }
        refine chainP_call (d := (some 65)) (.int .i64 z) rfl rfl (fun w' hS' => ?_) ?_
        · simp only [lookP, allP, Act.put, List.getElem?_cons_zero, List.getElem?_cons_succ, List.setIfInBounds_toArray, List.set_cons_zero, List.set_cons_succ]
          intro K hK
          go_simp
          go_at_call 173
          refine (spec_pCommit ⟨P, Q, G⟩ h0b _ l0b x y _ HG.out (HLB.out.below hS'.1) HSB.out HXI.out HYI.out).mono ?_
          rintro e u ⟨rfl, hq⟩
          rw [HZ0.out]
          exact hK.out _ hq
        -- 9: buildSlice 24 1 #[(0, t65)]
        refine chainP_do (d := (some 66)) (fun v w => Ints w v [z]) (fun v w w' hb h => Ints.below h hb) rfl rfl (fun w' hS' => ?_) ?_
        · simp only [lookP, allP, Act.put, List.getElem?_cons_zero, List.getElem?_cons_succ, List.setIfInBounds_toArray, List.set_cons_zero, List.set_cons_succ]
          intro K hK
          go_simp
          refine hK.out _ _ ((Below.refl _ _).alloc (Nat.le_refl _) _) ?_
          exact (OwnI.lit (B := w'.heap.size) w' (Nat.le_refl _) (l := [z]) (AllI64.cons HZI.out AllI64.nil) rfl (by simp [maxLen]) 1 rfl).ints
        refine chainP_nil (fun ua hS' => ?_)
        simp only [allP, Act.put, List.setIfInBounds_toArray, List.set_cons_zero, List.set_cons_succ]
        intro x9 hx9
        have hq1 := hS'.1
        clear hS'
        replace hc := Below.next hc hq1
        replace c0 := box_at c0 hq1
        replace c1 := box_at c1 hq1
        replace c2 := box_at c2 hq1
        replace d0 := box_at d0 hq1
        replace d1 := box_at d1 hq1
        replace yr := box_at yr hq1
        clear hq1
        clear c0 c1 c2 d0 d1 yr
        have HO5 := Lib.hid (HOW.out.below hc)
        have hs5 : V2.heap.size ≤ ua.heap.size := Nat.le_trans HBR.out.size hc.size
        go_wp2_with (at_builtin; refine wpList_append_ints rfl _ _ rfl V2.heap.size _ _ lst [z] rfl HO5.out rfl hx9 (by rw [HLK.out]; simp; omega) hs5 ?_; intro v8 w8 hown8 hgr8)
        have hb8 : Below V2.heap.size ua w8 := HO5.out.grown hgr8 hs5
        have hb9 : Below V2.heap.size V2 w8 := (HBR.out.trans (hc.mono HBR.out.size)).trans hb8
        try (refine NoPanic.normal ?_)
        try (go_wp2_with fail)
        go_roundg (n0d - (k + 1))
        case measure => omega
        case rel => exact ⟨k + 1, lst ++ [z], by omega, by go_num, by rw [List.length_append, HLK.out]; rfl, hown8, hb9⟩
      · obtain rfl : n0d = k := by omega
        have hl24 : n0d ≤ 24 := by have := HPS.out.2.2.1; have := HE0d.out; omega
        have hsz90 := hbr.size
        replace HX0 := Lib.hid (HX0.out.below hbr)
        replace HX1 := Lib.hid (HX1.out.below hbr)
        replace HX2 := Lib.hid (HX2.out.below hbr)
        replace HLb0 := Lib.hid (HLb0.out.below hbr)
        replace HLb1 := Lib.hid (HLb1.out.below hbr)
        replace HZ1 := Lib.hid (HZ1.out.below hbr)
        replace HL0b := Lib.hid (HL0b.out.below hbr)
        replace HL0c := Lib.hid (HL0c.out.below hbr)
        replace HL0d := Lib.hid (HL0d.out.below hbr)
        replace HL0e := Lib.hid (HL0e.out.below hbr)
        replace HL1a := Lib.hid (HL1a.out.below hbr)
        replace HL1b := Lib.hid (HL1b.out.below hbr)
        replace HL1c := Lib.hid (HL1c.out.below hbr)
        replace HW := Lib.hid (HW.out.trans (Within.of_below hbr))
        replace HC := Lib.hid (HC.out.keep hbr)
        clear hbr
        have HL3 : Hid (Since V2.heap.size wr (fun z => Ints z (.slice ao n0d co) lst)) := Since.of_ownI HOW.out (Nat.le_refl _)
        have HE3 : Hid (lst.length = n0d) := HLK.out
        clear HOW HLU HRU HBU
        have z_0_0 := HX0.out.cell (i := 0) rfl
        have z_0_1 := HX0.out.cell (i := 1) rfl
        have z_0_2 := HX0.out.cell (i := 2) rfl
        have z_1_0 := HX1.out.cell (i := 0) rfl
        have z_1_1 := HX1.out.cell (i := 1) rfl
        have z_2_0 := HX2.out.cell (i := 0) rfl
        have z_2_1 := HX2.out.cell (i := 1) rfl
        have z_2_2 := HX2.out.cell (i := 2) rfl
        have z_3_0 := HLb0.out.cell (i := 0) rfl
        have z_3_1 := HLb0.out.cell (i := 1) rfl
        have z_3_2 := HLb0.out.cell (i := 2) rfl
        have z_4_0 := HLb1.out.cell (i := 0) rfl
        have z_4_1 := HLb1.out.cell (i := 1) rfl
        have z_5_0 := HZ1.out.cell (i := 0) rfl
        have z_5_1 := HZ1.out.cell (i := 1) rfl
        have z_5_2 := HZ1.out.cell (i := 2) rfl
        try (go_wp2_with fail)
        clear z_0_0 z_0_1 z_0_2 z_1_0 z_1_1 z_2_0 z_2_1 z_2_2 z_3_0 z_3_1 z_3_2 z_4_0 z_4_1 z_5_0 z_5_1 z_5_2
        refine (spec_nSumB _ l0d Q _ HL0d.out.here zq0 zq3 HBL.out).mono ?_
        rintro e u4 ⟨rfl, hb⟩
        obtain ⟨r4, hr4⟩ : ∃ r, sumM Q l0d = r := ⟨_, rfl⟩
        have Hr4 := Lib.hid hr4
        rw [hr4]
        clear hr4
        have hx_r4 := sumM_bd zq0 l0d
        rw [Hr4.out] at hx_r4
        obtain ⟨r4l, r4u⟩ := hx_r4
        have hsz4 := hb.size
        replace HX0 := Lib.hid (HX0.out.below hb)
        replace HX1 := Lib.hid (HX1.out.below hb)
        replace HX2 := Lib.hid (HX2.out.below hb)
        replace HLb0 := Lib.hid (HLb0.out.below hb)
        replace HLb1 := Lib.hid (HLb1.out.below hb)
        replace HZ1 := Lib.hid (HZ1.out.below hb)
        replace HL0b := Lib.hid (HL0b.out.below hb)
        replace HL0c := Lib.hid (HL0c.out.below hb)
        replace HL0d := Lib.hid (HL0d.out.below hb)
        replace HL0e := Lib.hid (HL0e.out.below hb)
        replace HL1a := Lib.hid (HL1a.out.below hb)
        replace HL1b := Lib.hid (HL1b.out.below hb)
        replace HL1c := Lib.hid (HL1c.out.below hb)
        replace HL3 := Lib.hid (HL3.out.below hb)
        replace HW := Lib.hid (HW.out.trans (Within.of_below hb))
        replace HC := Lib.hid (HC.out.keep hb)
        clear hb
        have z_0_0 := HX0.out.cell (i := 0) rfl
        have z_0_1 := HX0.out.cell (i := 1) rfl
        have z_0_2 := HX0.out.cell (i := 2) rfl
        have z_1_0 := HX1.out.cell (i := 0) rfl
        have z_1_1 := HX1.out.cell (i := 1) rfl
        have z_2_0 := HX2.out.cell (i := 0) rfl
        have z_2_1 := HX2.out.cell (i := 1) rfl
        have z_2_2 := HX2.out.cell (i := 2) rfl
        have z_3_0 := HLb0.out.cell (i := 0) rfl
        have z_3_1 := HLb0.out.cell (i := 1) rfl
        have z_3_2 := HLb0.out.cell (i := 2) rfl
        have z_4_0 := HLb1.out.cell (i := 0) rfl
        have z_4_1 := HLb1.out.cell (i := 1) rfl
        have z_5_0 := HZ1.out.cell (i := 0) rfl
        have z_5_1 := HZ1.out.cell (i := 1) rfl
        have z_5_2 := HZ1.out.cell (i := 2) rfl
        try (go_wp2_with fail)
        clear z_0_0 z_0_1 z_0_2 z_1_0 z_1_1 z_2_0 z_2_1 z_2_2 z_3_0 z_3_1 z_3_2 z_4_0 z_4_1 z_5_0 z_5_1 z_5_2
        refine (spec_one U g _ 6 _ HC.out (HW.out.belowOf HUC.out (Nat.le_of_eq HUS.out)) (by omega) ).mono ?_
        rintro e u5 ⟨⟨b5, rfl⟩, hc, hw⟩
        have hsz5 := hw.size
        replace HX0 := Lib.hid (HX0.out.kept hw (.inl (by omega)))
        replace HX1 := Lib.hid (HX1.out.kept hw (.inl (by omega)))
        replace HX2 := Lib.hid (HX2.out.kept hw (.inl (by omega)))
        replace HLb0 := Lib.hid (HLb0.out.kept hw (.inl (by omega)))
        replace HLb1 := Lib.hid (HLb1.out.kept hw (.inl (by omega)))
        replace HZ1 := Lib.hid (HZ1.out.kept hw (.inr (by omega)))
        replace HL0b := Lib.hid (HL0b.out.within hw (by omega))
        replace HL0c := Lib.hid (HL0c.out.within hw (by omega))
        replace HL0d := Lib.hid (HL0d.out.within hw (by omega))
        replace HL0e := Lib.hid (HL0e.out.within hw (by omega))
        replace HL1a := Lib.hid (HL1a.out.within hw (by omega))
        replace HL1b := Lib.hid (HL1b.out.within hw (by omega))
        replace HL1c := Lib.hid (HL1c.out.within hw (by omega))
        replace HL3 := Lib.hid (HL3.out.within hw (by omega))
        replace HW := Lib.hid (HW.out.trans hw)
        replace HC := Lib.hid hc
        clear hc hw
        cases b5 with
        | false =>
          have z_0_0 := HX0.out.cell (i := 0) rfl
          have z_0_1 := HX0.out.cell (i := 1) rfl
          have z_0_2 := HX0.out.cell (i := 2) rfl
          have z_1_0 := HX1.out.cell (i := 0) rfl
          have z_1_1 := HX1.out.cell (i := 1) rfl
          have z_2_0 := HX2.out.cell (i := 0) rfl
          have z_2_1 := HX2.out.cell (i := 1) rfl
          have z_2_2 := HX2.out.cell (i := 2) rfl
          have z_3_0 := HLb0.out.cell (i := 0) rfl
          have z_3_1 := HLb0.out.cell (i := 1) rfl
          have z_3_2 := HLb0.out.cell (i := 2) rfl
          have z_4_0 := HLb1.out.cell (i := 0) rfl
          have z_4_1 := HLb1.out.cell (i := 1) rfl
          have z_5_0 := HZ1.out.cell (i := 0) rfl
          have z_5_1 := HZ1.out.cell (i := 1) rfl
          have z_5_2 := HZ1.out.cell (i := 2) rfl
          try (go_wp2_with fail)
          clear z_0_0
          clear z_0_1
          clear z_0_2
          clear z_1_0
          clear z_1_1
          clear z_2_0
          clear z_2_1
          clear z_2_2
          refine wp_region_noPanic ?_
          refine wp_region_V (fun w' => w'.cell? ⟨R1.heap.size, 0, none⟩ = some (.int .i64 P) ∧ w'.cell? ⟨R1.heap.size, 1, none⟩ = some (.int .i64 Q) ∧ w'.cell? ⟨R1.heap.size, 2, none⟩ = some (.int .i64 G) ∧ w'.cell? ⟨R1.heap.size + 1, 0, none⟩ = some (.int .i64 h0b) ∧ w'.cell? ⟨R1.heap.size + 1, 1, none⟩ = some (.slice a0b n0b c0b) ∧ w'.cell? ⟨u1.heap.size, 0, none⟩ = some (.slice a1a n1a_ c1a) ∧ w'.cell? ⟨u1.heap.size, 1, none⟩ = some (.slice a1b n1b_ c1b) ∧ w'.cell? ⟨u1.heap.size, 2, none⟩ = some (.slice a1c n1c_ c1c)) 15 13 (.rd 0 (.rd 1 (.rd 2 (.rd 3 (.rd 4 (.rd 5 (.rd 6 (.alt 7 (.alt 8 (.alt 9 (.alt 10 (.alt 11 (.alt 12 .done .nil) .nil) .nil) .nil) .nil) .nil)))))))) [] (by kernel_rfl) (by kernel_rfl) rfl (fun _ _ _ _ _ h => h) ⟨box_at z_3_0 (Below.refl _ _).drew, box_at z_3_1 (Below.refl _ _).drew, box_at z_3_2 (Below.refl _ _).drew, box_at z_4_0 (Below.refl _ _).drew, box_at z_4_1 (Below.refl _ _).drew, box_at z_5_0 (Below.refl _ _).drew, box_at z_5_1 (Below.refl _ _).drew, box_at z_5_2 (Below.refl _ _).drew⟩ ?_
          simp only [pickV, pickN, List.getElem?_cons_zero, List.getElem?_cons_succ]
          repeat (refine' wpV_read _ (by kernel_rfl) (fun w' hS' => ?_) ?_; rotate_left; · ((try dsimp only at hS'); go_simp; (try with_reducible rfl)); (try simp only [Act.put, List.setIfInBounds_toArray, List.set_cons_zero, List.set_cons_succ]))
          have hdr : Below u5.heap.size u5 u5.drew := (Below.refl _ _).drew
          have hszd := hdr.size
          replace HX0 := Lib.hid (HX0.out.below hdr)
          replace HX1 := Lib.hid (HX1.out.below hdr)
          replace HX2 := Lib.hid (HX2.out.below hdr)
          replace HLb0 := Lib.hid (HLb0.out.below hdr)
          replace HLb1 := Lib.hid (HLb1.out.below hdr)
          replace HZ1 := Lib.hid (HZ1.out.below hdr)
          replace HL0b := Lib.hid (HL0b.out.below hdr)
          replace HL0c := Lib.hid (HL0c.out.below hdr)
          replace HL0d := Lib.hid (HL0d.out.below hdr)
          replace HL0e := Lib.hid (HL0e.out.below hdr)
          replace HL1a := Lib.hid (HL1a.out.below hdr)
          replace HL1b := Lib.hid (HL1b.out.below hdr)
          replace HL1c := Lib.hid (HL1c.out.below hdr)
          replace HL3 := Lib.hid (HL3.out.below hdr)
          replace HW := Lib.hid (HW.out.trans (Within.of_below hdr))
          replace HC := Lib.hid (HC.out.keep hdr)
          clear hdr
          refine wpV_do (by kernel_rfl) (fun K hK => ?_)
          -- 7: call
          go_simp
          go_at_call 201
          refine (spec_spoiltProof U g _ P Q G _ _ _ l1a l1b l1c _ HC.out (HW.out.belowOf HUC.out (Nat.le_of_eq HUS.out)) (by omega) HGR.out HL1a.out.here HL1b.out.here HL1c.out.here (by have := HE1a.out; omega) (by have := HE1b.out; omega) (by have := HE1c.out; omega)).mono ?_
          rintro e ut1 ⟨⟨vt1a, vt1b, vt1c, lt1a, lt1b, lt1c, rfl, ⟨hst1a, hlt1a⟩, ⟨hst1b, hlt1b⟩, ⟨hst1c, hlt1c⟩⟩, hc, hw⟩
          have HLt1a := Lib.hid hst1a
          obtain ⟨at1a, nt1a, ct1a, rfl⟩ := hst1a.here.shape
          have hnt1a : nt1a ≤ 31 := by have h1 := hst1a.here.len; omega
          have HEt1a := Lib.hid hst1a.here.len
          clear hst1a
          have HLt1b := Lib.hid hst1b
          obtain ⟨at1b, nt1b, ct1b, rfl⟩ := hst1b.here.shape
          have hnt1b : nt1b ≤ 31 := by have h1 := hst1b.here.len; omega
          have HEt1b := Lib.hid hst1b.here.len
          clear hst1b
          have HLt1c := Lib.hid hst1c
          obtain ⟨at1c, nt1c, ct1c, rfl⟩ := hst1c.here.shape
          have hnt1c : nt1c ≤ 31 := by have h1 := hst1c.here.len; omega
          have HEt1c := Lib.hid hst1c.here.len
          clear hst1c
          have hszt1 := hw.size
          replace HX0 := Lib.hid (HX0.out.kept hw (.inl (by omega)))
          replace HX1 := Lib.hid (HX1.out.kept hw (.inl (by omega)))
          replace HX2 := Lib.hid (HX2.out.kept hw (.inl (by omega)))
          replace HLb0 := Lib.hid (HLb0.out.kept hw (.inl (by omega)))
          replace HLb1 := Lib.hid (HLb1.out.kept hw (.inl (by omega)))
          replace HZ1 := Lib.hid (HZ1.out.kept hw (.inr (by omega)))
          replace HL0b := Lib.hid (HL0b.out.within hw (by omega))
          replace HL0c := Lib.hid (HL0c.out.within hw (by omega))
          replace HL0d := Lib.hid (HL0d.out.within hw (by omega))
          replace HL0e := Lib.hid (HL0e.out.within hw (by omega))
          replace HL1a := Lib.hid (HL1a.out.within hw (by omega))
          replace HL1b := Lib.hid (HL1b.out.within hw (by omega))
          replace HL1c := Lib.hid (HL1c.out.within hw (by omega))
          replace HL3 := Lib.hid (HL3.out.within hw (by omega))
          replace HW := Lib.hid (HW.out.trans hw)
          replace HC := Lib.hid hc
          clear hc hw
          clear z_3_0 z_3_1 z_3_2 z_4_0 z_4_1 z_5_0 z_5_1 z_5_2
          have z_3_0 := HLb0.out.cell (i := 0) rfl
          have z_3_1 := HLb0.out.cell (i := 1) rfl
          have z_3_2 := HLb0.out.cell (i := 2) rfl
          have z_4_0 := HLb1.out.cell (i := 0) rfl
          have z_4_1 := HLb1.out.cell (i := 1) rfl
          have z_5_0 := HZ1.out.cell (i := 0) rfl
          have z_5_1 := HZ1.out.cell (i := 1) rfl
          have z_5_2 := HZ1.out.cell (i := 2) rfl
          refine hK.out _ _ ⟨z_3_0, z_3_1, z_3_2, z_4_0, z_4_1, z_5_0, z_5_1, z_5_2⟩ (fun _ => ?_)
          clear hK K
          (try simp only [Act.put, List.setIfInBounds_toArray, List.set_cons_zero, List.set_cons_succ])
          refine wpV_do (by kernel_rfl) (fun K hK => ?_)
          -- 8: store
          have r0 := HX0.out.cell (i := 0) rfl
          have r1 := HX0.out.cell (i := 1) rfl
          have r2 := HX0.out.cell (i := 2) rfl
          have fr := fun j => HX0.out.frozen j
          obtain ⟨Y2, hY⟩ : ∃ Y, Y = ((ut1.setCell ⟨w.heap.size, 0, none⟩ (.int .i64 P)).setCell ⟨w.heap.size, 1, none⟩ (.int .i64 Q)).setCell ⟨w.heap.size, 2, none⟩ (.int .i64 G) := ⟨_, rfl⟩
          have hYl : Within (w.heap.size) (w.heap.size + 1) ut1 Y2 := by rw [hY]; exact ((((Within.refl (w.heap.size) (w.heap.size + 1) ut1).setCell (b := w.heap.size) (by omega) (by omega) 0 (.int .i64 P)).setCell (b := w.heap.size) (by omega) (by omega) 1 (.int .i64 Q)).setCell (b := w.heap.size) (by omega) (by omega) 2 (.int .i64 G))
          have HYW : Hid (Within w.heap.size (w.heap.size + 3) ut1 Y2) := hYl.mono (by omega) (by omega)
          have HYB : Hid (Below w.heap.size w Y2) := hYl.belowU (HW.out.belowOf HBW.out (by omega)) (by omega)
          have HCS : Hid (∀ w', Within w.heap.size (w.heap.size + 3) ut1 w' → w'.cell? ⟨R1.heap.size, 0, none⟩ = some (.int .i64 P) ∧ w'.cell? ⟨R1.heap.size, 1, none⟩ = some (.int .i64 Q) ∧ w'.cell? ⟨R1.heap.size, 2, none⟩ = some (.int .i64 G) ∧ w'.cell? ⟨R1.heap.size + 1, 0, none⟩ = some (.int .i64 h0b) ∧ w'.cell? ⟨R1.heap.size + 1, 1, none⟩ = some (.slice a0b n0b c0b) ∧ w'.cell? ⟨u1.heap.size, 0, none⟩ = some (.slice a1a n1a_ c1a) ∧ w'.cell? ⟨u1.heap.size, 1, none⟩ = some (.slice a1b n1b_ c1b) ∧ w'.cell? ⟨u1.heap.size, 2, none⟩ = some (.slice a1c n1c_ c1c)) := fun w' h => ⟨within_at h z_3_0 (by omega), within_at h z_3_1 (by omega), within_at h z_3_2 (by omega), within_at h z_4_0 (by omega), within_at h z_4_1 (by omega), within_at h z_5_0 (by omega), within_at h z_5_1 (by omega), within_at h z_5_2 (by omega)⟩
          go_simp
          refine hK.out _ _ ?_ (fun _ => ?_)
          · rw [← hY]; exact HCS.out _ HYW.out
          rw [← hY]
          clear hK K fr r0 r1 r2
          replace HX0 : Hid (BoxN Y2 w.heap.size 39 [.int .i64 P, .int .i64 Q, .int .i64 G]) := by unfold Hid; rw [hY]; exact (((HX0.out.set 0 (.int .i64 P)).set 1 (.int .i64 Q)).set 2 (.int .i64 G))
          replace HX1 := Lib.hid (HX1.out.kept hYl (by omega))
          replace HX2 := Lib.hid (HX2.out.kept hYl (by omega))
          clear hY hYl
          (try simp only [Act.put, List.setIfInBounds_toArray, List.set_cons_zero, List.set_cons_succ])
          clear z_3_0 z_3_1 z_3_2 z_4_0 z_4_1 z_5_0 z_5_1 z_5_2
          obtain ⟨z_3_0, z_3_1, z_3_2, z_4_0, z_4_1, z_5_0, z_5_1, z_5_2⟩ := HCS.out _ HYW.out
          refine wpV_do (by kernel_rfl) (fun K hK => ?_)
          -- 9: store
          have r0 := HX1.out.cell (i := 0) rfl
          have r1 := HX1.out.cell (i := 1) rfl
          have fr := fun j => HX1.out.frozen j
          obtain ⟨Y3, hY⟩ : ∃ Y, Y = (Y2.setCell ⟨w.heap.size + 1, 0, none⟩ (.int .i64 h0b)).setCell ⟨w.heap.size + 1, 1, none⟩ (.slice a0b n0b c0b) := ⟨_, rfl⟩
          have hYl : Within (w.heap.size + 1) (w.heap.size + 1 + 1) Y2 Y3 := by rw [hY]; exact (((Within.refl (w.heap.size + 1) (w.heap.size + 1 + 1) Y2).setCell (b := w.heap.size + 1) (by omega) (by omega) 0 (.int .i64 h0b)).setCell (b := w.heap.size + 1) (by omega) (by omega) 1 (.slice a0b n0b c0b))
          replace HYW := Lib.hid (HYW.out.trans (hYl.mono (by omega) (by omega)))
          replace HYB := Lib.hid (hYl.belowU HYB.out (by omega))
          go_simp
          refine hK.out _ _ ?_ (fun _ => ?_)
          · rw [← hY]; exact HCS.out _ HYW.out
          rw [← hY]
          clear hK K fr r0 r1
          replace HX1 : Hid (BoxN Y3 (w.heap.size + 1) 79 [.int .i64 h0b, .slice a0b n0b c0b]) := by unfold Hid; rw [hY]; exact ((HX1.out.set 0 (.int .i64 h0b)).set 1 (.slice a0b n0b c0b))
          replace HX0 := Lib.hid (HX0.out.kept hYl (by omega))
          replace HX2 := Lib.hid (HX2.out.kept hYl (by omega))
          clear hY hYl
          (try simp only [Act.put, List.setIfInBounds_toArray, List.set_cons_zero, List.set_cons_succ])
          clear z_3_0 z_3_1 z_3_2 z_4_0 z_4_1 z_5_0 z_5_1 z_5_2
          obtain ⟨z_3_0, z_3_1, z_3_2, z_4_0, z_4_1, z_5_0, z_5_1, z_5_2⟩ := HCS.out _ HYW.out
          refine wpV_do (by kernel_rfl) (fun K hK => ?_)
          -- 10: load
          go_simp
          refine hK.out _ _ ⟨z_3_0, z_3_1, z_3_2, z_4_0, z_4_1, z_5_0, z_5_1, z_5_2⟩ (fun _ => ?_)
          clear hK K
          (try simp only [Act.put, List.setIfInBounds_toArray, List.set_cons_zero, List.set_cons_succ])
          refine wpV_do (by kernel_rfl) (fun K hK => ?_)
          -- 11: load
          go_simp
          refine hK.out _ _ ⟨z_3_0, z_3_1, z_3_2, z_4_0, z_4_1, z_5_0, z_5_1, z_5_2⟩ (fun _ => ?_)
          clear hK K
          (try simp only [Act.put, List.setIfInBounds_toArray, List.set_cons_zero, List.set_cons_succ])
          refine wpV_do (by kernel_rfl) (fun K hK => ?_)
          -- 12: store
          have r0 := HX2.out.cell (i := 0) rfl
          have r1 := HX2.out.cell (i := 1) rfl
          have r2 := HX2.out.cell (i := 2) rfl
          have fr := fun j => HX2.out.frozen j
          obtain ⟨Y4, hY⟩ : ∃ Y, Y = ((Y3.setCell ⟨w.heap.size + 1 + 1, 0, none⟩ (.slice at1a nt1a ct1a)).setCell ⟨w.heap.size + 1 + 1, 1, none⟩ (.slice at1b nt1b ct1b)).setCell ⟨w.heap.size + 1 + 1, 2, none⟩ (.slice at1c nt1c ct1c) := ⟨_, rfl⟩
          have hYl : Within (w.heap.size + 1 + 1) (w.heap.size + 1 + 1 + 1) Y3 Y4 := by rw [hY]; exact ((((Within.refl (w.heap.size + 1 + 1) (w.heap.size + 1 + 1 + 1) Y3).setCell (b := w.heap.size + 1 + 1) (by omega) (by omega) 0 (.slice at1a nt1a ct1a)).setCell (b := w.heap.size + 1 + 1) (by omega) (by omega) 1 (.slice at1b nt1b ct1b)).setCell (b := w.heap.size + 1 + 1) (by omega) (by omega) 2 (.slice at1c nt1c ct1c))
          replace HYW := Lib.hid (HYW.out.trans (hYl.mono (by omega) (by omega)))
          replace HYB := Lib.hid (hYl.belowU HYB.out (by omega))
          go_simp
          refine hK.out _ _ ?_ (fun _ => ?_)
          · rw [← hY]; exact HCS.out _ HYW.out
          rw [← hY]
          clear hK K fr r0 r1 r2
          replace HX2 : Hid (BoxN Y4 (w.heap.size + 1 + 1) 42 [.slice at1a nt1a ct1a, .slice at1b nt1b ct1b, .slice at1c nt1c ct1c]) := by unfold Hid; rw [hY]; exact (((HX2.out.set 0 (.slice at1a nt1a ct1a)).set 1 (.slice at1b nt1b ct1b)).set 2 (.slice at1c nt1c ct1c))
          replace HX0 := Lib.hid (HX0.out.kept hYl (by omega))
          replace HX1 := Lib.hid (HX1.out.kept hYl (by omega))
          clear hY hYl
          (try simp only [Act.put, List.setIfInBounds_toArray, List.set_cons_zero, List.set_cons_succ])
          clear z_3_0 z_3_1 z_3_2 z_4_0 z_4_1 z_5_0 z_5_1 z_5_2
          obtain ⟨z_3_0, z_3_1, z_3_2, z_4_0, z_4_1, z_5_0, z_5_1, z_5_2⟩ := HCS.out _ HYW.out
          refine wpV_done ?_
          go_wp2_with fail
          refine NoPanic.normal ?_
          clear z_3_0 z_3_1 z_3_2 z_4_0 z_4_1 z_5_0 z_5_1 z_5_2
          have t_HX0_0 := HX0.out.cell (i := 0) rfl
          have t_HX0_1 := HX0.out.cell (i := 1) rfl
          have t_HX0_2 := HX0.out.cell (i := 2) rfl
          have t_HX1_0 := HX1.out.cell (i := 0) rfl
          have t_HX1_1 := HX1.out.cell (i := 1) rfl
          have t_HX2_0 := HX2.out.cell (i := 0) rfl
          have t_HX2_1 := HX2.out.cell (i := 1) rfl
          have t_HX2_2 := HX2.out.cell (i := 2) rfl
          try (go_wp2_with fail)
          refine bodyPost_ret (v := .tuple #[.agg #[.int .i64 P, .int .i64 Q, .int .i64 G], .agg #[.int .i64 h0b, .slice a0b n0b c0b], .slice ao n0d co, .int .i64 r4, .agg #[.slice at1a nt1a ct1a, .slice at1b nt1b ct1b, .slice at1c nt1c ct1c]]) (by simp [results, Try.results88, go_sem, t_HX0_0, t_HX0_1, t_HX0_2, t_HX1_0, t_HX1_1, t_HX2_0, t_HX2_1, t_HX2_2]) rfl ⟨⟨_, _, _, _, _, _, _, _, _, _, _, _, _, _, _, rfl, HGR.out, ⟨⟨by omega, by omega⟩, (HL0b.out.within HYW.out (by omega)).here, by have := HE0b.out; omega⟩, ⟨(HL3.out.within HYW.out (by omega)).here, by have := HE3.out; omega⟩, ⟨by omega, by omega⟩, ⟨⟨(HLt1a.out.within HYW.out (by omega)).here, by have := HEt1a.out; omega⟩, ⟨(HLt1b.out.within HYW.out (by omega)).here, by have := HEt1b.out; omega⟩, ⟨(HLt1c.out.within HYW.out (by omega)).here, by have := HEt1c.out; omega⟩⟩⟩, HYB.out⟩
        | true =>
          have z_0_0 := HX0.out.cell (i := 0) rfl
          have z_0_1 := HX0.out.cell (i := 1) rfl
          have z_0_2 := HX0.out.cell (i := 2) rfl
          have z_1_0 := HX1.out.cell (i := 0) rfl
          have z_1_1 := HX1.out.cell (i := 1) rfl
          have z_2_0 := HX2.out.cell (i := 0) rfl
          have z_2_1 := HX2.out.cell (i := 1) rfl
          have z_2_2 := HX2.out.cell (i := 2) rfl
          have z_3_0 := HLb0.out.cell (i := 0) rfl
          have z_3_1 := HLb0.out.cell (i := 1) rfl
          have z_3_2 := HLb0.out.cell (i := 2) rfl
          have z_4_0 := HLb1.out.cell (i := 0) rfl
          have z_4_1 := HLb1.out.cell (i := 1) rfl
          have z_5_0 := HZ1.out.cell (i := 0) rfl
          have z_5_1 := HZ1.out.cell (i := 1) rfl
          have z_5_2 := HZ1.out.cell (i := 2) rfl
          try (go_wp2_with fail)
          clear z_0_0 z_0_1 z_0_2 z_1_0 z_1_1 z_2_0 z_2_1 z_2_2 z_3_0 z_3_1 z_3_2 z_4_0 z_4_1 z_5_0 z_5_1 z_5_2
          refine (spec_anyExpo U g _ P Q G _ HC.out (HW.out.belowOf HUC.out (Nat.le_of_eq HUS.out)) (by omega) HGR.out).mono ?_
          rintro e u6 ⟨⟨x6, rfl, x6l, x6u⟩, hc, hw⟩
          have hsz6 := hw.size
          replace HX0 := Lib.hid (HX0.out.kept hw (.inl (by omega)))
          replace HX1 := Lib.hid (HX1.out.kept hw (.inl (by omega)))
          replace HX2 := Lib.hid (HX2.out.kept hw (.inl (by omega)))
          replace HLb0 := Lib.hid (HLb0.out.kept hw (.inl (by omega)))
          replace HLb1 := Lib.hid (HLb1.out.kept hw (.inl (by omega)))
          replace HZ1 := Lib.hid (HZ1.out.kept hw (.inr (by omega)))
          replace HL0b := Lib.hid (HL0b.out.within hw (by omega))
          replace HL0c := Lib.hid (HL0c.out.within hw (by omega))
          replace HL0d := Lib.hid (HL0d.out.within hw (by omega))
          replace HL0e := Lib.hid (HL0e.out.within hw (by omega))
          replace HL1a := Lib.hid (HL1a.out.within hw (by omega))
          replace HL1b := Lib.hid (HL1b.out.within hw (by omega))
          replace HL1c := Lib.hid (HL1c.out.within hw (by omega))
          replace HL3 := Lib.hid (HL3.out.within hw (by omega))
          replace HW := Lib.hid (HW.out.trans hw)
          replace HC := Lib.hid hc
          clear hc hw
          have z_0_0 := HX0.out.cell (i := 0) rfl
          have z_0_1 := HX0.out.cell (i := 1) rfl
          have z_0_2 := HX0.out.cell (i := 2) rfl
          have z_1_0 := HX1.out.cell (i := 0) rfl
          have z_1_1 := HX1.out.cell (i := 1) rfl
          have z_2_0 := HX2.out.cell (i := 0) rfl
          have z_2_1 := HX2.out.cell (i := 1) rfl
          have z_2_2 := HX2.out.cell (i := 2) rfl
          have z_3_0 := HLb0.out.cell (i := 0) rfl
          have z_3_1 := HLb0.out.cell (i := 1) rfl
          have z_3_2 := HLb0.out.cell (i := 2) rfl
          have z_4_0 := HLb1.out.cell (i := 0) rfl
          have z_4_1 := HLb1.out.cell (i := 1) rfl
          have z_5_0 := HZ1.out.cell (i := 0) rfl
          have z_5_1 := HZ1.out.cell (i := 1) rfl
          have z_5_2 := HZ1.out.cell (i := 2) rfl
          try (go_wp2_with fail)
          clear z_0_0
          clear z_0_1
          clear z_0_2
          clear z_1_0
          clear z_1_1
          clear z_2_0
          clear z_2_1
          clear z_2_2
          refine wp_region_noPanic ?_
          refine wp_region_V (fun w' => w'.cell? ⟨R1.heap.size, 0, none⟩ = some (.int .i64 P) ∧ w'.cell? ⟨R1.heap.size, 1, none⟩ = some (.int .i64 Q) ∧ w'.cell? ⟨R1.heap.size, 2, none⟩ = some (.int .i64 G) ∧ w'.cell? ⟨R1.heap.size + 1, 0, none⟩ = some (.int .i64 h0b) ∧ w'.cell? ⟨R1.heap.size + 1, 1, none⟩ = some (.slice a0b n0b c0b) ∧ w'.cell? ⟨u1.heap.size, 0, none⟩ = some (.slice a1a n1a_ c1a) ∧ w'.cell? ⟨u1.heap.size, 1, none⟩ = some (.slice a1b n1b_ c1b) ∧ w'.cell? ⟨u1.heap.size, 2, none⟩ = some (.slice a1c n1c_ c1c)) 15 13 (.rd 0 (.rd 1 (.rd 2 (.rd 3 (.rd 4 (.rd 5 (.rd 6 (.alt 7 (.alt 8 (.alt 9 (.alt 10 (.alt 11 (.alt 12 .done .nil) .nil) .nil) .nil) .nil) .nil)))))))) [] (by kernel_rfl) (by kernel_rfl) rfl (fun _ _ _ _ _ h => h) ⟨box_at z_3_0 (Below.refl _ _).drew, box_at z_3_1 (Below.refl _ _).drew, box_at z_3_2 (Below.refl _ _).drew, box_at z_4_0 (Below.refl _ _).drew, box_at z_4_1 (Below.refl _ _).drew, box_at z_5_0 (Below.refl _ _).drew, box_at z_5_1 (Below.refl _ _).drew, box_at z_5_2 (Below.refl _ _).drew⟩ ?_
          simp only [pickV, pickN, List.getElem?_cons_zero, List.getElem?_cons_succ]
          repeat (refine' wpV_read _ (by kernel_rfl) (fun w' hS' => ?_) ?_; rotate_left; · ((try dsimp only at hS'); go_simp; (try with_reducible rfl)); (try simp only [Act.put, List.setIfInBounds_toArray, List.set_cons_zero, List.set_cons_succ]))
          have hdr : Below u6.heap.size u6 u6.drew := (Below.refl _ _).drew
          have hszd := hdr.size
          replace HX0 := Lib.hid (HX0.out.below hdr)
          replace HX1 := Lib.hid (HX1.out.below hdr)
          replace HX2 := Lib.hid (HX2.out.below hdr)
          replace HLb0 := Lib.hid (HLb0.out.below hdr)
          replace HLb1 := Lib.hid (HLb1.out.below hdr)
          replace HZ1 := Lib.hid (HZ1.out.below hdr)
          replace HL0b := Lib.hid (HL0b.out.below hdr)
          replace HL0c := Lib.hid (HL0c.out.below hdr)
          replace HL0d := Lib.hid (HL0d.out.below hdr)
          replace HL0e := Lib.hid (HL0e.out.below hdr)
          replace HL1a := Lib.hid (HL1a.out.below hdr)
          replace HL1b := Lib.hid (HL1b.out.below hdr)
          replace HL1c := Lib.hid (HL1c.out.below hdr)
          replace HL3 := Lib.hid (HL3.out.below hdr)
          replace HW := Lib.hid (HW.out.trans (Within.of_below hdr))
          replace HC := Lib.hid (HC.out.keep hdr)
          clear hdr
          refine wpV_do (by kernel_rfl) (fun K hK => ?_)
          -- 7: call
          go_simp
          go_at_call 201
          refine (spec_spoiltProof U g _ P Q G _ _ _ l1a l1b l1c _ HC.out (HW.out.belowOf HUC.out (Nat.le_of_eq HUS.out)) (by omega) HGR.out HL1a.out.here HL1b.out.here HL1c.out.here (by have := HE1a.out; omega) (by have := HE1b.out; omega) (by have := HE1c.out; omega)).mono ?_
          rintro e ut1 ⟨⟨vt1a, vt1b, vt1c, lt1a, lt1b, lt1c, rfl, ⟨hst1a, hlt1a⟩, ⟨hst1b, hlt1b⟩, ⟨hst1c, hlt1c⟩⟩, hc, hw⟩
          have HLt1a := Lib.hid hst1a
          obtain ⟨at1a, nt1a, ct1a, rfl⟩ := hst1a.here.shape
          have hnt1a : nt1a ≤ 31 := by have h1 := hst1a.here.len; omega
          have HEt1a := Lib.hid hst1a.here.len
          clear hst1a
          have HLt1b := Lib.hid hst1b
          obtain ⟨at1b, nt1b, ct1b, rfl⟩ := hst1b.here.shape
          have hnt1b : nt1b ≤ 31 := by have h1 := hst1b.here.len; omega
          have HEt1b := Lib.hid hst1b.here.len
          clear hst1b
          have HLt1c := Lib.hid hst1c
          obtain ⟨at1c, nt1c, ct1c, rfl⟩ := hst1c.here.shape
          have hnt1c : nt1c ≤ 31 := by have h1 := hst1c.here.len; omega
          have HEt1c := Lib.hid hst1c.here.len
          clear hst1c
          have hszt1 := hw.size
          replace HX0 := Lib.hid (HX0.out.kept hw (.inl (by omega)))
          replace HX1 := Lib.hid (HX1.out.kept hw (.inl (by omega)))
          replace HX2 := Lib.hid (HX2.out.kept hw (.inl (by omega)))
          replace HLb0 := Lib.hid (HLb0.out.kept hw (.inl (by omega)))
          replace HLb1 := Lib.hid (HLb1.out.kept hw (.inl (by omega)))
          replace HZ1 := Lib.hid (HZ1.out.kept hw (.inr (by omega)))
          replace HL0b := Lib.hid (HL0b.out.within hw (by omega))
          replace HL0c := Lib.hid (HL0c.out.within hw (by omega))
          replace HL0d := Lib.hid (HL0d.out.within hw (by omega))
          replace HL0e := Lib.hid (HL0e.out.within hw (by omega))
          replace HL1a := Lib.hid (HL1a.out.within hw (by omega))
          replace HL1b := Lib.hid (HL1b.out.within hw (by omega))
          replace HL1c := Lib.hid (HL1c.out.within hw (by omega))
          replace HL3 := Lib.hid (HL3.out.within hw (by omega))
          replace HW := Lib.hid (HW.out.trans hw)
          replace HC := Lib.hid hc
          clear hc hw
          clear z_3_0 z_3_1 z_3_2 z_4_0 z_4_1 z_5_0 z_5_1 z_5_2
          have z_3_0 := HLb0.out.cell (i := 0) rfl
          have z_3_1 := HLb0.out.cell (i := 1) rfl
          have z_3_2 := HLb0.out.cell (i := 2) rfl
          have z_4_0 := HLb1.out.cell (i := 0) rfl
          have z_4_1 := HLb1.out.cell (i := 1) rfl
          have z_5_0 := HZ1.out.cell (i := 0) rfl
          have z_5_1 := HZ1.out.cell (i := 1) rfl
          have z_5_2 := HZ1.out.cell (i := 2) rfl
          refine hK.out _ _ ⟨z_3_0, z_3_1, z_3_2, z_4_0, z_4_1, z_5_0, z_5_1, z_5_2⟩ (fun _ => ?_)
          clear hK K
          (try simp only [Act.put, List.setIfInBounds_toArray, List.set_cons_zero, List.set_cons_succ])
          refine wpV_do (by kernel_rfl) (fun K hK => ?_)
          -- 8: store
          have r0 := HX0.out.cell (i := 0) rfl
          have r1 := HX0.out.cell (i := 1) rfl
          have r2 := HX0.out.cell (i := 2) rfl
          have fr := fun j => HX0.out.frozen j
          obtain ⟨Y2, hY⟩ : ∃ Y, Y = ((ut1.setCell ⟨w.heap.size, 0, none⟩ (.int .i64 P)).setCell ⟨w.heap.size, 1, none⟩ (.int .i64 Q)).setCell ⟨w.heap.size, 2, none⟩ (.int .i64 G) := ⟨_, rfl⟩
          have hYl : Within (w.heap.size) (w.heap.size + 1) ut1 Y2 := by rw [hY]; exact ((((Within.refl (w.heap.size) (w.heap.size + 1) ut1).setCell (b := w.heap.size) (by omega) (by omega) 0 (.int .i64 P)).setCell (b := w.heap.size) (by omega) (by omega) 1 (.int .i64 Q)).setCell (b := w.heap.size) (by omega) (by omega) 2 (.int .i64 G))
          have HYW : Hid (Within w.heap.size (w.heap.size + 3) ut1 Y2) := hYl.mono (by omega) (by omega)
          have HYB : Hid (Below w.heap.size w Y2) := hYl.belowU (HW.out.belowOf HBW.out (by omega)) (by omega)
          have HCS : Hid (∀ w', Within w.heap.size (w.heap.size + 3) ut1 w' → w'.cell? ⟨R1.heap.size, 0, none⟩ = some (.int .i64 P) ∧ w'.cell? ⟨R1.heap.size, 1, none⟩ = some (.int .i64 Q) ∧ w'.cell? ⟨R1.heap.size, 2, none⟩ = some (.int .i64 G) ∧ w'.cell? ⟨R1.heap.size + 1, 0, none⟩ = some (.int .i64 h0b) ∧ w'.cell? ⟨R1.heap.size + 1, 1, none⟩ = some (.slice a0b n0b c0b) ∧ w'.cell? ⟨u1.heap.size, 0, none⟩ = some (.slice a1a n1a_ c1a) ∧ w'.cell? ⟨u1.heap.size, 1, none⟩ = some (.slice a1b n1b_ c1b) ∧ w'.cell? ⟨u1.heap.size, 2, none⟩ = some (.slice a1c n1c_ c1c)) := fun w' h => ⟨within_at h z_3_0 (by omega), within_at h z_3_1 (by omega), within_at h z_3_2 (by omega), within_at h z_4_0 (by omega), within_at h z_4_1 (by omega), within_at h z_5_0 (by omega), within_at h z_5_1 (by omega), within_at h z_5_2 (by omega)⟩
          go_simp
          refine hK.out _ _ ?_ (fun _ => ?_)
          · rw [← hY]; exact HCS.out _ HYW.out
          rw [← hY]
          clear hK K fr r0 r1 r2
          replace HX0 : Hid (BoxN Y2 w.heap.size 39 [.int .i64 P, .int .i64 Q, .int .i64 G]) := by unfold Hid; rw [hY]; exact (((HX0.out.set 0 (.int .i64 P)).set 1 (.int .i64 Q)).set 2 (.int .i64 G))
          replace HX1 := Lib.hid (HX1.out.kept hYl (by omega))
          replace HX2 := Lib.hid (HX2.out.kept hYl (by omega))
          clear hY hYl
          (try simp only [Act.put, List.setIfInBounds_toArray, List.set_cons_zero, List.set_cons_succ])
          clear z_3_0 z_3_1 z_3_2 z_4_0 z_4_1 z_5_0 z_5_1 z_5_2
          obtain ⟨z_3_0, z_3_1, z_3_2, z_4_0, z_4_1, z_5_0, z_5_1, z_5_2⟩ := HCS.out _ HYW.out
          refine wpV_do (by kernel_rfl) (fun K hK => ?_)
          -- 9: store
          have r0 := HX1.out.cell (i := 0) rfl
          have r1 := HX1.out.cell (i := 1) rfl
          have fr := fun j => HX1.out.frozen j
          obtain ⟨Y3, hY⟩ : ∃ Y, Y = (Y2.setCell ⟨w.heap.size + 1, 0, none⟩ (.int .i64 h0b)).setCell ⟨w.heap.size + 1, 1, none⟩ (.slice a0b n0b c0b) := ⟨_, rfl⟩
          have hYl : Within (w.heap.size + 1) (w.heap.size + 1 + 1) Y2 Y3 := by rw [hY]; exact (((Within.refl (w.heap.size + 1) (w.heap.size + 1 + 1) Y2).setCell (b := w.heap.size + 1) (by omega) (by omega) 0 (.int .i64 h0b)).setCell (b := w.heap.size + 1) (by omega) (by omega) 1 (.slice a0b n0b c0b))
          replace HYW := Lib.hid (HYW.out.trans (hYl.mono (by omega) (by omega)))
          replace HYB := Lib.hid (hYl.belowU HYB.out (by omega))
          go_simp
          refine hK.out _ _ ?_ (fun _ => ?_)
          · rw [← hY]; exact HCS.out _ HYW.out
          rw [← hY]
          clear hK K fr r0 r1
          replace HX1 : Hid (BoxN Y3 (w.heap.size + 1) 79 [.int .i64 h0b, .slice a0b n0b c0b]) := by unfold Hid; rw [hY]; exact ((HX1.out.set 0 (.int .i64 h0b)).set 1 (.slice a0b n0b c0b))
          replace HX0 := Lib.hid (HX0.out.kept hYl (by omega))
          replace HX2 := Lib.hid (HX2.out.kept hYl (by omega))
          clear hY hYl
          (try simp only [Act.put, List.setIfInBounds_toArray, List.set_cons_zero, List.set_cons_succ])
          clear z_3_0 z_3_1 z_3_2 z_4_0 z_4_1 z_5_0 z_5_1 z_5_2
          obtain ⟨z_3_0, z_3_1, z_3_2, z_4_0, z_4_1, z_5_0, z_5_1, z_5_2⟩ := HCS.out _ HYW.out
          refine wpV_do (by kernel_rfl) (fun K hK => ?_)
          -- 10: load
          go_simp
          refine hK.out _ _ ⟨z_3_0, z_3_1, z_3_2, z_4_0, z_4_1, z_5_0, z_5_1, z_5_2⟩ (fun _ => ?_)
          clear hK K
          (try simp only [Act.put, List.setIfInBounds_toArray, List.set_cons_zero, List.set_cons_succ])
          refine wpV_do (by kernel_rfl) (fun K hK => ?_)
          -- 11: load
          go_simp
          refine hK.out _ _ ⟨z_3_0, z_3_1, z_3_2, z_4_0, z_4_1, z_5_0, z_5_1, z_5_2⟩ (fun _ => ?_)
          clear hK K
          (try simp only [Act.put, List.setIfInBounds_toArray, List.set_cons_zero, List.set_cons_succ])
          refine wpV_do (by kernel_rfl) (fun K hK => ?_)
          -- 12: store
          have r0 := HX2.out.cell (i := 0) rfl
          have r1 := HX2.out.cell (i := 1) rfl
          have r2 := HX2.out.cell (i := 2) rfl
          have fr := fun j => HX2.out.frozen j
          obtain ⟨Y4, hY⟩ : ∃ Y, Y = ((Y3.setCell ⟨w.heap.size + 1 + 1, 0, none⟩ (.slice at1a nt1a ct1a)).setCell ⟨w.heap.size + 1 + 1, 1, none⟩ (.slice at1b nt1b ct1b)).setCell ⟨w.heap.size + 1 + 1, 2, none⟩ (.slice at1c nt1c ct1c) := ⟨_, rfl⟩
          have hYl : Within (w.heap.size + 1 + 1) (w.heap.size + 1 + 1 + 1) Y3 Y4 := by rw [hY]; exact ((((Within.refl (w.heap.size + 1 + 1) (w.heap.size + 1 + 1 + 1) Y3).setCell (b := w.heap.size + 1 + 1) (by omega) (by omega) 0 (.slice at1a nt1a ct1a)).setCell (b := w.heap.size + 1 + 1) (by omega) (by omega) 1 (.slice at1b nt1b ct1b)).setCell (b := w.heap.size + 1 + 1) (by omega) (by omega) 2 (.slice at1c nt1c ct1c))
          replace HYW := Lib.hid (HYW.out.trans (hYl.mono (by omega) (by omega)))
          replace HYB := Lib.hid (hYl.belowU HYB.out (by omega))
          go_simp
          refine hK.out _ _ ?_ (fun _ => ?_)
          · rw [← hY]; exact HCS.out _ HYW.out
          rw [← hY]
          clear hK K fr r0 r1 r2
          replace HX2 : Hid (BoxN Y4 (w.heap.size + 1 + 1) 42 [.slice at1a nt1a ct1a, .slice at1b nt1b ct1b, .slice at1c nt1c ct1c]) := by unfold Hid; rw [hY]; exact (((HX2.out.set 0 (.slice at1a nt1a ct1a)).set 1 (.slice at1b nt1b ct1b)).set 2 (.slice at1c nt1c ct1c))
          replace HX0 := Lib.hid (HX0.out.kept hYl (by omega))
          replace HX1 := Lib.hid (HX1.out.kept hYl (by omega))
          clear hY hYl
          (try simp only [Act.put, List.setIfInBounds_toArray, List.set_cons_zero, List.set_cons_succ])
          clear z_3_0 z_3_1 z_3_2 z_4_0 z_4_1 z_5_0 z_5_1 z_5_2
          obtain ⟨z_3_0, z_3_1, z_3_2, z_4_0, z_4_1, z_5_0, z_5_1, z_5_2⟩ := HCS.out _ HYW.out
          refine wpV_done ?_
          go_wp2_with fail
          refine NoPanic.normal ?_
          clear z_3_0 z_3_1 z_3_2 z_4_0 z_4_1 z_5_0 z_5_1 z_5_2
          have t_HX0_0 := HX0.out.cell (i := 0) rfl
          have t_HX0_1 := HX0.out.cell (i := 1) rfl
          have t_HX0_2 := HX0.out.cell (i := 2) rfl
          have t_HX1_0 := HX1.out.cell (i := 0) rfl
          have t_HX1_1 := HX1.out.cell (i := 1) rfl
          have t_HX2_0 := HX2.out.cell (i := 0) rfl
          have t_HX2_1 := HX2.out.cell (i := 1) rfl
          have t_HX2_2 := HX2.out.cell (i := 2) rfl
          try (go_wp2_with fail)
          refine bodyPost_ret (v := .tuple #[.agg #[.int .i64 P, .int .i64 Q, .int .i64 G], .agg #[.int .i64 h0b, .slice a0b n0b c0b], .slice ao n0d co, .int .i64 x6, .agg #[.slice at1a nt1a ct1a, .slice at1b nt1b ct1b, .slice at1c nt1c ct1c]]) (by simp [results, Try.results88, go_sem, t_HX0_0, t_HX0_1, t_HX0_2, t_HX1_0, t_HX1_1, t_HX2_0, t_HX2_1, t_HX2_2]) rfl ⟨⟨_, _, _, _, _, _, _, _, _, _, _, _, _, _, _, rfl, HGR.out, ⟨⟨by omega, by omega⟩, (HL0b.out.within HYW.out (by omega)).here, by have := HE0b.out; omega⟩, ⟨(HL3.out.within HYW.out (by omega)).here, by have := HE3.out; omega⟩, ⟨by omega, by omega⟩, ⟨⟨(HLt1a.out.within HYW.out (by omega)).here, by have := HEt1a.out; omega⟩, ⟨(HLt1b.out.within HYW.out (by omega)).here, by have := HEt1b.out; omega⟩, ⟨(HLt1c.out.within HYW.out (by omega)).here, by have := HEt1c.out; omega⟩⟩⟩, HYB.out⟩
end Go.Proofs.Ytboahnklilmdpaa
