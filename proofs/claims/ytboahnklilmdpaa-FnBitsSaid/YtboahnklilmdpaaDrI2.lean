/- Draws: proofs of bits to be checked (printed by gen_drt.py). -/
import Derived.Test.YtboahnklilmdpaaDrI
import Derived.Test.YtboahnklilmdpaaDrT
import Derived.Test.YtboahnklilmdpaaSpoil
import Derived.Test.YtboahnklilmdpaaBit4
namespace Go.Proofs.Ytboahnklilmdpaa
open Go.RowKit
set_option linter.unusedSimpArgs false
set_option linter.unusedVariables false

theorem pbR_len (gr : GroupD) (s : ByteArray) (bh : Int) (bl : List Int) (m r : Int) (cs : List Int) : (pbR gr s bh bl m r cs).c.length ≤ 30 ∧ (pbR gr s bh bl m r cs).h.length ≤ 30 ∧ (pbR gr s bh bl m r cs).r.length ≤ 30 := by
  unfold pbR
  split
  · have := btD_len gr s bh m r cs; exact ⟨by omega, by omega, by omega⟩
  · exact ⟨by simp, by simp, by simp⟩
theorem spec_l1LeastB (a b : Int) (w : World) :
    Calls Try.prog 215 #[.int .i64 a, .int .i64 b] w fun e w' => e = .returned (.int .i64 (min a b)) ∧ Below w.heap.size w w' := by
  have h : a < b ∨ b ≤ a := by omega
  go_enter Try.func215, Try.ntmps215
  rcases h with h | h
  · have HR : Hid (min a b = a) := Int.min_eq_left (by omega)
    go_wp2; go_ret; exact ⟨ret_int (by first | (rw [HR.out]; done) | (rw [HR.out]; rfl) | exact HR.out.symm), Below.refl _ _⟩
  · have HR : Hid (min a b = b) := Int.min_eq_right h
    have h' : decide (a < b) = false := decide_eq_false (by omega)
    go_wp2; go_ret; exact ⟨ret_int (by first | (rw [HR.out]; done) | (rw [HR.out]; rfl) | exact HR.out.symm), Below.refl _ _⟩
set_option maxRecDepth 100000 in
set_option maxHeartbeats 4000000 in
theorem spec_DrawVerifyBit (v : Value) (w : World) (h : Bytes w v) :
    Calls Try.prog 94 #[v] w fun e w' => (∃ (P : Int) (Q : Int) (G : Int) (hr1 : Int) (vr1 : Value) (lr1 : List Int) (xr2 : Int) (vr3a : Value) (vr3b : Value) (vr3c : Value) (lr3a : List Int) (lr3b : List Int) (lr3c : List Int), e = .returned (.tuple #[.agg #[.int .i64 P, .int .i64 Q, .int .i64 G], .agg #[.int .i64 hr1, vr1], .int .i64 xr2, .agg #[vr3a, vr3b, vr3c]]) ∧ GrB ⟨P, Q, G⟩ ∧ ((-10 ≤ hr1 ∧ hr1 ≤ 2000000010) ∧ (Ints w' vr1 lr1 ∧ lr1.length ≤ 26)) ∧ (-10 ≤ xr2 ∧ xr2 ≤ 2000000010) ∧ (Ints w' vr3a lr3a ∧ lr3a.length ≤ 31) ∧ (Ints w' vr3b lr3b ∧ lr3b.length ≤ 31) ∧ (Ints w' vr3c lr3c ∧ lr3c.length ≤ 31)) ∧ Below w.heap.size w w' := by
  obtain ⟨a, m, c, rfl, hk1, hk2, hv⟩ := h
  have HY : Hid (Bytes w (.slice a m c)) := ⟨a, m, c, rfl, hk1, hk2, hv⟩
  clear hv
  unfold maxLen at hk2
  obtain ⟨R0, hR0⟩ : ∃ U, U = ((w.alloc (.cells #[.int .i64 0, .int .i64 0, .int .i64 0] 39)).alloc (.cells #[.int .i64 0, (.slice none 0 0)] 79)).alloc (.cells #[(.slice none 0 0), (.slice none 0 0), (.slice none 0 0)] 42) := ⟨_, rfl⟩
  have hbU : Below w.heap.size w R0 := by rw [hR0]; (repeat (first | exact Below.refl _ _ | assumption | refine Below.drew ?_ | refine Below.alloc ?_ (by first | (simp; done) | (simp; omega)) _ | refine Below.setCell ?_ (by first | (simp; done) | (simp; omega)) _))
  have HX0 : Hid (BoxN R0 w.heap.size 39 [.int .i64 0, .int .i64 0, .int .i64 0]) := by unfold Hid; rw [hR0]; have h := (((BoxN.new w [.int .i64 0, .int .i64 0, .int .i64 0] 39).alloc (.cells #[.int .i64 0, (.slice none 0 0)] 79)).alloc (.cells #[(.slice none 0 0), (.slice none 0 0), (.slice none 0 0)] 42)); simpa using h
  have HX1 : Hid (BoxN R0 (w.heap.size + 1) 79 [.int .i64 0, (.slice none 0 0)]) := by unfold Hid; rw [hR0]; have h := ((BoxN.new (w.alloc (.cells #[.int .i64 0, .int .i64 0, .int .i64 0] 39)) [.int .i64 0, (.slice none 0 0)] 79).alloc (.cells #[(.slice none 0 0), (.slice none 0 0), (.slice none 0 0)] 42)); simpa using h
  have HX2 : Hid (BoxN R0 (w.heap.size + 1 + 1) 42 [(.slice none 0 0), (.slice none 0 0), (.slice none 0 0)]) := by unfold Hid; rw [hR0]; have h := (BoxN.new ((w.alloc (.cells #[.int .i64 0, .int .i64 0, .int .i64 0] 39)).alloc (.cells #[.int .i64 0, (.slice none 0 0)] 79)) [(.slice none 0 0), (.slice none 0 0), (.slice none 0 0)] 42); simpa using h
  have hsU : R0.heap.size = w.heap.size + 1 + 1 + 1 := by rw [hR0]; simp
  have HBW := Lib.hid hbU
  go_enter Try.func94, Try.ntmps94
  go_wp2_with fail
  rw [← hR0]
  clear hR0
  refine (spec_DrawProveBitS _ _ (HY.out.below hbU)).mono ?_
  rintro e R1 ⟨⟨P, Q, G, h0b, v0b, l0b, x0c, x0d, v0e, l0e, rfl, hgr, ⟨⟨h0bl, h0bu⟩, hs0b, hl0b⟩, ⟨x0cl, x0cu⟩, ⟨x0dl, x0du⟩, ⟨hs0e, hl0e⟩⟩, hb1⟩
  have HGR := Lib.hid hgr
  clear hgr hbU
  replace HY := Lib.hid (HY.out.below (HBW.out.trans (hb1.mono HBW.out.size)))
  replace HBW := Lib.hid (Below.next HBW.out hb1)
  have hs1 := hb1.size
  replace HX0 := Lib.hid (HX0.out.below hb1)
  replace HX1 := Lib.hid (HX1.out.below hb1)
  replace HX2 := Lib.hid (HX2.out.below hb1)
  clear hb1
  obtain ⟨a0b, n0b, c0b, rfl⟩ := hs0b.here.shape
  have HE0b := Lib.hid hs0b.here.len
  have hn0b : n0b ≤ 26 := by have := HE0b.out; omega
  have HL0b := Lib.hid hs0b
  clear hs0b
  obtain ⟨a0e, n0e, c0e, rfl⟩ := hs0e.here.shape
  have HE0e := Lib.hid hs0e.here.len
  have hn0e : n0e ≤ 1001 := by have := HE0e.out; omega
  have HL0e := Lib.hid hs0e
  clear hs0e
  obtain ⟨U, hU⟩ : ∃ U, U = (R1.alloc (.cells #[.int .i64 P, .int .i64 Q, .int .i64 G] 39)).alloc (.cells #[.int .i64 h0b, .slice a0b n0b c0b] 79) := ⟨_, rfl⟩
  have hbU : Below R1.heap.size R1 U := by rw [hU]; (repeat (first | exact Below.refl _ _ | assumption | refine Below.drew ?_ | refine Below.alloc ?_ (by first | (simp; done) | (simp; omega)) _ | refine Below.setCell ?_ (by first | (simp; done) | (simp; omega)) _))
  have hsU : U.heap.size = R1.heap.size + 2 := by rw [hU]; simp
  have HLb0 : Hid (BoxN U R1.heap.size 39 [.int .i64 P, .int .i64 Q, .int .i64 G]) := by unfold Hid; rw [hU]; have h := ((BoxN.new R1 [.int .i64 P, .int .i64 Q, .int .i64 G] 39).alloc (.cells #[.int .i64 h0b, .slice a0b n0b c0b] 79)); simpa using h
  have HLb1 : Hid (BoxN U (R1.heap.size + 1) 79 [.int .i64 h0b, .slice a0b n0b c0b]) := by unfold Hid; rw [hU]; have h := (BoxN.new (R1.alloc (.cells #[.int .i64 P, .int .i64 Q, .int .i64 G] 39)) [.int .i64 h0b, .slice a0b n0b c0b] 79); simpa using h
  replace HX0 := Lib.hid (HX0.out.below hbU)
  replace HX1 := Lib.hid (HX1.out.below hbU)
  replace HX2 := Lib.hid (HX2.out.below hbU)
  have hr0 : R0.heap.size ≤ R1.heap.size := hs1
  have hwg : w.heap.size + 3 ≤ R0.heap.size := by omega
  replace HL0b : Hid (SinceT R0.heap.size U.heap.size U _) := SinceT.of HL0b.out hbU (by omega)
  replace HL0e : Hid (SinceT R0.heap.size U.heap.size U _) := SinceT.of HL0e.out hbU (by omega)
  replace HY := Lib.hid (HY.out.below hbU)
  replace HBW := Lib.hid (Below.next HBW.out hbU)
  clear hbU
  obtain ⟨W, hW⟩ : ∃ W, W = U.alloc (.cells #[.slice a m c, .int .i64 0, .int .u64 0] 170) := ⟨_, rfl⟩
  have HC : Hid (Cur U W U.heap.size 0) := by unfold Hid; rw [hW]; exact Cur.new U HY.out
  have hbW : Below U.heap.size U W := by rw [hW]; exact (Below.refl _ _).alloc (Nat.le_refl _) _
  replace HBW := Lib.hid (Below.next HBW.out hbW)
  have HUB := Lib.hid hbW
  replace HX0 := Lib.hid (HX0.out.below hbW)
  replace HX1 := Lib.hid (HX1.out.below hbW)
  replace HX2 := Lib.hid (HX2.out.below hbW)
  replace HLb0 := Lib.hid (HLb0.out.below hbW)
  replace HLb1 := Lib.hid (HLb1.out.below hbW)
  replace HL0b := Lib.hid (HL0b.out.below hbW)
  replace HL0e := Lib.hid (HL0e.out.below hbW)
  have lz_HLb0_0 := HLb0.out.cell (i := 0) rfl
  have lz_HLb0_1 := HLb0.out.cell (i := 1) rfl
  have lz_HLb0_2 := HLb0.out.cell (i := 2) rfl
  have lz_HLb1_0 := HLb1.out.cell (i := 0) rfl
  have lz_HLb1_1 := HLb1.out.cell (i := 1) rfl
  have hsW1 : W.heap.size = U.heap.size + 1 := by rw [hW]; simp
  go_wp2_with fail
  rw [← hU, ← hW]
  clear hU hW lz_HLb0_0 lz_HLb0_1 lz_HLb0_2 lz_HLb1_0 lz_HLb1_1
  obtain ⟨g, hg⟩ : ∃ g, g = U.heap.size := ⟨_, rfl⟩
  (try rw [show R1.heap.size + 1 + 1 = g by omega])
  (try rw [← hg])
  rw [← hg] at HC HUB
  have HWS : Hid (W.heap.size = g + 1) := by unfold Hid; omega
  have HUS : Hid (U.heap.size = g) := hg.symm
  have HW := Lib.hid (Within.refl g (g + 1) W)
  have HUC : Hid (Below U.heap.size U W) := by unfold Hid; rw [HUS.out]; exact HUB.out
  have hgl : R1.heap.size + 1 < g := by omega
  have hgU : U.heap.size ≤ g := by omega
  have hgW : g < W.heap.size := by omega
  clear hg hsW1 hsU hbW
  have z_0_0 := HX0.out.cell (i := 0) rfl
  have z_0_1 := HX0.out.cell (i := 1) rfl
  have z_0_2 := HX0.out.cell (i := 2) rfl
  have z_1_0 := HX1.out.cell (i := 0) rfl
  have z_1_1 := HX1.out.cell (i := 1) rfl
  have z_2_0 := HX2.out.cell (i := 0) rfl
  have z_2_1 := HX2.out.cell (i := 1) rfl
  have z_2_2 := HX2.out.cell (i := 2) rfl
  have z_3_0 := HLb0.out.cell (i := 0) rfl
  have z_3_1 := HLb0.out.cell (i := 1) rfl
  have z_3_2 := HLb0.out.cell (i := 2) rfl
  have z_4_0 := HLb1.out.cell (i := 0) rfl
  have z_4_1 := HLb1.out.cell (i := 1) rfl
  try (go_wp2_with fail)
  clear z_0_0 z_0_1 z_0_2 z_1_0 z_1_1 z_2_0 z_2_1 z_2_2 z_3_0 z_3_1 z_3_2 z_4_0 z_4_1
  refine (spec_ProveBit ⟨P, Q, G⟩ h0b _ l0b x0c x0d _ l0e _ HL0b.out.here ⟨by omega, by omega⟩ ⟨by omega, by omega⟩ ⟨by omega, by omega⟩ HL0e.out.here).mono ?_
  rintro e u1 ⟨⟨v1a, v1b, v1c, rfl, o1a, o1b, o1c⟩, hb⟩
  obtain ⟨n1a, n1b, n1c⟩ := pbR_len ⟨P, Q, G⟩ sBit h0b l0b x0c x0d l0e
  obtain ⟨q1q, hq1q⟩ : ∃ r, pbB ⟨P, Q, G⟩ h0b l0b x0c x0d l0e = r := ⟨_, rfl⟩
  have Hq1q := Lib.hid hq1q
  rw [hq1q]
  clear hq1q
  obtain ⟨l1a, hl1a⟩ : ∃ l, (pbR ⟨P, Q, G⟩ sBit h0b l0b x0c x0d l0e).c = l := ⟨_, rfl⟩
  rw [hl1a] at o1a n1a
  clear hl1a
  obtain ⟨a1a, n1a_, c1a, rfl⟩ := o1a.ints.shape
  have HE1a := Lib.hid o1a.ints.len
  have HL1a : Hid (Since W.heap.size u1 (fun z => Ints z (.slice a1a n1a_ c1a) l1a)) := Since.of_ownI o1a (Nat.le_refl _)
  clear o1a
  obtain ⟨l1b, hl1b⟩ : ∃ l, (pbR ⟨P, Q, G⟩ sBit h0b l0b x0c x0d l0e).h = l := ⟨_, rfl⟩
  rw [hl1b] at o1b n1b
  clear hl1b
  obtain ⟨a1b, n1b_, c1b, rfl⟩ := o1b.ints.shape
  have HE1b := Lib.hid o1b.ints.len
  have HL1b : Hid (Since W.heap.size u1 (fun z => Ints z (.slice a1b n1b_ c1b) l1b)) := Since.of_ownI o1b (Nat.le_refl _)
  clear o1b
  obtain ⟨l1c, hl1c⟩ : ∃ l, (pbR ⟨P, Q, G⟩ sBit h0b l0b x0c x0d l0e).r = l := ⟨_, rfl⟩
  rw [hl1c] at o1c n1c
  clear hl1c
  obtain ⟨a1c, n1c_, c1c, rfl⟩ := o1c.ints.shape
  have HE1c := Lib.hid o1c.ints.len
  have HL1c : Hid (Since W.heap.size u1 (fun z => Ints z (.slice a1c n1c_ c1c) l1c)) := Since.of_ownI o1c (Nat.le_refl _)
  clear o1c
  have hsz1 := hb.size
  replace HX0 := Lib.hid (HX0.out.below hb)
  replace HX1 := Lib.hid (HX1.out.below hb)
  replace HX2 := Lib.hid (HX2.out.below hb)
  replace HLb0 := Lib.hid (HLb0.out.below hb)
  replace HLb1 := Lib.hid (HLb1.out.below hb)
  replace HL0b := Lib.hid (HL0b.out.below hb)
  replace HL0e := Lib.hid (HL0e.out.below hb)
  replace HW := Lib.hid (HW.out.trans (Within.of_below hb))
  replace HC := Lib.hid (HC.out.keep hb)
  clear hb
  have z_0_0 := HX0.out.cell (i := 0) rfl
  have z_0_1 := HX0.out.cell (i := 1) rfl
  have z_0_2 := HX0.out.cell (i := 2) rfl
  have z_1_0 := HX1.out.cell (i := 0) rfl
  have z_1_1 := HX1.out.cell (i := 1) rfl
  have z_2_0 := HX2.out.cell (i := 0) rfl
  have z_2_1 := HX2.out.cell (i := 1) rfl
  have z_2_2 := HX2.out.cell (i := 2) rfl
  have z_3_0 := HLb0.out.cell (i := 0) rfl
  have z_3_1 := HLb0.out.cell (i := 1) rfl
  have z_3_2 := HLb0.out.cell (i := 2) rfl
  have z_4_0 := HLb1.out.cell (i := 0) rfl
  have z_4_1 := HLb1.out.cell (i := 1) rfl
  have lt_HX0 := HX0.out.lt
  have lt_HX1 := HX1.out.lt
  have lt_HX2 := HX2.out.lt
  have lt_HLb0 := HLb0.out.lt
  have lt_HLb1 := HLb1.out.lt
  obtain ⟨V2, hV⟩ : ∃ V, V = u1.alloc (.cells #[.slice a1a n1a_ c1a, .slice a1b n1b_ c1b, .slice a1c n1c_ c1c] 42) := ⟨_, rfl⟩
  have hbV : Below u1.heap.size u1 V2 := by rw [hV]; (repeat (first | exact Below.refl _ _ | assumption | refine Below.drew ?_ | refine Below.alloc ?_ (by first | (simp; done) | (simp; omega)) _ | refine Below.setCell ?_ (by first | (simp; done) | (simp; omega)) _))
  have HZ1 : Hid (BoxN V2 u1.heap.size 42 [.slice a1a n1a_ c1a, .slice a1b n1b_ c1b, .slice a1c n1c_ c1c]) := by unfold Hid; rw [hV]; have h := (BoxN.new u1 [.slice a1a n1a_ c1a, .slice a1b n1b_ c1b, .slice a1c n1c_ c1c] 42); simpa using h
  have hgc : g < u1.heap.size := HC.out.lt
  go_wp2_with fail
  rw [← hV]
  have hsV2 : V2.heap.size = u1.heap.size + 1 := by rw [hV]; simp
  clear hV hgc
  replace HX0 := Lib.hid (HX0.out.below hbV)
  replace HX1 := Lib.hid (HX1.out.below hbV)
  replace HX2 := Lib.hid (HX2.out.below hbV)
  replace HLb0 := Lib.hid (HLb0.out.below hbV)
  replace HLb1 := Lib.hid (HLb1.out.below hbV)
  replace HL0b := Lib.hid (HL0b.out.below hbV)
  replace HL0e := Lib.hid (HL0e.out.below hbV)
  replace HL1a := Lib.hid (HL1a.out.below hbV)
  replace HL1b := Lib.hid (HL1b.out.below hbV)
  replace HL1c := Lib.hid (HL1c.out.below hbV)
  replace HW := Lib.hid (HW.out.trans (Within.of_below hbV))
  replace HC := Lib.hid (HC.out.keep hbV)
  clear hbV
  clear z_0_0 z_0_1 z_0_2 z_1_0 z_1_1 z_2_0 z_2_1 z_2_2 z_3_0 z_3_1 z_3_2 z_4_0 z_4_1
  clear lt_HX0
  clear lt_HX1
  clear lt_HX2
  clear lt_HLb0
  clear lt_HLb1
  have z_0_0 := HX0.out.cell (i := 0) rfl
  have z_0_1 := HX0.out.cell (i := 1) rfl
  have z_0_2 := HX0.out.cell (i := 2) rfl
  have z_1_0 := HX1.out.cell (i := 0) rfl
  have z_1_1 := HX1.out.cell (i := 1) rfl
  have z_2_0 := HX2.out.cell (i := 0) rfl
  have z_2_1 := HX2.out.cell (i := 1) rfl
  have z_2_2 := HX2.out.cell (i := 2) rfl
  have z_3_0 := HLb0.out.cell (i := 0) rfl
  have z_3_1 := HLb0.out.cell (i := 1) rfl
  have z_3_2 := HLb0.out.cell (i := 2) rfl
  have z_4_0 := HLb1.out.cell (i := 0) rfl
  have z_4_1 := HLb1.out.cell (i := 1) rfl
  have z_5_0 := HZ1.out.cell (i := 0) rfl
  have z_5_1 := HZ1.out.cell (i := 1) rfl
  have z_5_2 := HZ1.out.cell (i := 2) rfl
  obtain ⟨rq3a, hrq3a⟩ : ∃ r, min x0c 1 = r := ⟨_, rfl⟩
  have Hrq3a := Lib.hid hrq3a
  clear hrq3a
  have rq3al : -10 ≤ rq3a := by rw [← Hrq3a.out]; omega
  have rq3au : rq3a ≤ 1 := by rw [← Hrq3a.out]; omega
  obtain ⟨rq5a, hrq5a⟩ : ∃ r, cmR ⟨P, Q, G⟩ h0b l0b rq3a x0d = r := ⟨_, rfl⟩
  have Hrq5a := Lib.hid hrq5a
  clear hrq5a
  have hx_rq5a : 0 ≤ rq5a ∧ rq5a ≤ 2000000000 := by rw [← Hrq5a.out]; exact cmR_bd
  obtain ⟨rq5al, rq5au⟩ := hx_rq5a
  obtain ⟨qq5b, hqq5b⟩ : ∃ r, cmB ⟨P, Q, G⟩ h0b l0b rq3a x0d = r := ⟨_, rfl⟩
  have Hqq5b := Lib.hid hqq5b
  clear hqq5b
  refine wp_region_noPanic ?_
  refine wp_region_Q (Within g (g + 1)) (DrawS U V2 g _ 1000000000 (fun w' => w'.cell? ⟨R1.heap.size, 0, none⟩ = some (.int .i64 P) ∧ w'.cell? ⟨R1.heap.size, 1, none⟩ = some (.int .i64 Q) ∧ w'.cell? ⟨R1.heap.size, 2, none⟩ = some (.int .i64 G) ∧ w'.cell? ⟨R1.heap.size + 1, 0, none⟩ = some (.int .i64 h0b) ∧ w'.cell? ⟨R1.heap.size + 1, 1, none⟩ = some (.slice a0b n0b c0b) ∧ w'.cell? ⟨u1.heap.size, 0, none⟩ = some (.slice a1a n1a_ c1a) ∧ w'.cell? ⟨u1.heap.size, 1, none⟩ = some (.slice a1b n1b_ c1b) ∧ w'.cell? ⟨u1.heap.size, 2, none⟩ = some (.slice a1c n1c_ c1c))) 13 [(0, []), (1, []), (2, []), (3, [0]), (4, []), (5, [4, 3, 1, 0]), (6, [0]), (7, [0]), (8, [1]), (9, [1])] [10] (by kernel_rfl) (by kernel_rfl) (by kernel_rfl) rfl (fun _ _ _ _ h => h) (DrawS.good _ _ _ _ _ _) ⟨(Within.refl _ _ _).drew, by simpa using HC.out.keep (Below.refl _ _).drew, ⟨box_at z_3_0 (Below.refl _ _).drew, box_at z_3_1 (Below.refl _ _).drew, box_at z_3_2 (Below.refl _ _).drew, box_at z_4_0 (Below.refl _ _).drew, box_at z_4_1 (Below.refl _ _).drew, box_at z_5_0 (Below.refl _ _).drew, box_at z_5_1 (Below.refl _ _).drew, box_at z_5_2 (Below.refl _ _).drew⟩⟩ ?_
  simp only [pickP, pickN, List.getElem?_cons_zero, List.getElem?_cons_succ]
  iterate 3 (refine' chainQ_read (DrawS.good _ _ _ _ _ _) _ rfl rfl (fun m w' hm' hS' => ?_) ?_; rotate_left; · (simp only [lookP, allP, Act.put, List.getElem?_cons_zero, List.getElem?_cons_succ, List.setIfInBounds_toArray, List.set_cons_zero, List.set_cons_succ]; (try dsimp only [DrawS] at hS'); go_simp; (try with_reducible rfl)))
  -- 3: call { callee := value (func 215), args := #[t39, const (int i64 1)], argTypes := #[3, 3] }
  refine chainQ_call (d := (some 40)) (.int .i64 rq3a) rfl rfl (fun m w' hm' hS' => ?_) ?_
  · simp only [lookP, allP, Act.put, List.getElem?_cons_zero, List.getElem?_cons_succ, List.setIfInBounds_toArray, List.set_cons_zero, List.set_cons_succ]
    intro K hK
    replace hm' : m < 10 := hm'
    go_simp
    go_at_call 215
    refine (spec_l1LeastB x0c 1 _).mono ?_
    rintro e u ⟨rfl, hq⟩
    have hw := (Within.of_below hq : Within g (g + 1) _ _)
    rw [Hrq3a.out]
    exact hK.out _ hw ⟨hS'.1.trans hw, (hS'.2.1.keep hq).mono (by omega), ⟨within_at (hS'.1.trans hw) z_3_0 (.inl (by omega)), within_at (hS'.1.trans hw) z_3_1 (.inl (by omega)), within_at (hS'.1.trans hw) z_3_2 (.inl (by omega)), within_at (hS'.1.trans hw) z_4_0 (.inl (by omega)), within_at (hS'.1.trans hw) z_4_1 (.inl (by omega)), within_at (hS'.1.trans hw) z_5_0 (.inr (by omega)), within_at (hS'.1.trans hw) z_5_1 (.inr (by omega)), within_at (hS'.1.trans hw) z_5_2 (.inr (by omega))⟩⟩
  -- 4: move t9
  refine' chainQ_read (DrawS.good _ _ _ _ _ _) (d := (some 41)) _ rfl rfl (fun m w' hm' hS' => ?_) ?_; rotate_left
  · simp only [lookP, allP, Act.put, List.getElem?_cons_zero, List.getElem?_cons_succ, List.setIfInBounds_toArray, List.set_cons_zero, List.set_cons_succ]
    (try dsimp only [DrawS] at hS')
    go_simp
    (try with_reducible rfl)
  -- 5: call { callee := value (func 50), args := #[t37, t38, t40, t41], argTypes := #[39, 79, 3, 3] }
  refine chainQ_call (d := (some 42)) (.tuple #[.int .i64 rq5a, .bool qq5b]) rfl rfl (fun m w' hm' hS' => ?_) ?_
  · simp only [lookP, allP, Act.put, List.getElem?_cons_zero, List.getElem?_cons_succ, List.setIfInBounds_toArray, List.set_cons_zero, List.set_cons_succ]
    intro K hK
    replace hm' : m < 10 := hm'
    go_simp
    go_at_call 50
    refine (spec_Commit ⟨P, Q, G⟩ h0b _ l0b rq3a x0d _ (HL0b.out.within hS'.1 (by omega)).here ⟨by omega, by omega⟩ ⟨by omega, by omega⟩ ⟨by omega, by omega⟩).mono ?_
    rintro e u ⟨rfl, hq⟩
    have hw := (Within.of_below hq : Within g (g + 1) _ _)
    rw [Hrq5a.out, Hqq5b.out]
    exact hK.out _ hw ⟨hS'.1.trans hw, (hS'.2.1.keep hq).mono (by omega), ⟨within_at (hS'.1.trans hw) z_3_0 (.inl (by omega)), within_at (hS'.1.trans hw) z_3_1 (.inl (by omega)), within_at (hS'.1.trans hw) z_3_2 (.inl (by omega)), within_at (hS'.1.trans hw) z_4_0 (.inl (by omega)), within_at (hS'.1.trans hw) z_4_1 (.inl (by omega)), within_at (hS'.1.trans hw) z_5_0 (.inr (by omega)), within_at (hS'.1.trans hw) z_5_1 (.inr (by omega)), within_at (hS'.1.trans hw) z_5_2 (.inr (by omega))⟩⟩
  iterate 4 (refine' chainQ_read (DrawS.good _ _ _ _ _ _) _ rfl rfl (fun m w' hm' hS' => ?_) ?_; rotate_left; · (simp only [lookP, allP, Act.put, List.getElem?_cons_zero, List.getElem?_cons_succ, List.setIfInBounds_toArray, List.set_cons_zero, List.set_cons_succ]; (try dsimp only [DrawS] at hS'); go_simp; (try with_reducible rfl)))
  refine chainQ_nil (fun u3 hS' => ?_)
  simp only [allP, Act.put, List.setIfInBounds_toArray, List.set_cons_zero, List.set_cons_succ]
  replace hS' : DrawS U V2 g _ 1000000000 _ 10 u3 := hS'
  obtain ⟨hw, hc, hC⟩ := hS'
  have hsz3 := hw.size
  replace HX0 := Lib.hid (HX0.out.kept hw (.inl (by omega)))
  replace HX1 := Lib.hid (HX1.out.kept hw (.inl (by omega)))
  replace HX2 := Lib.hid (HX2.out.kept hw (.inl (by omega)))
  replace HLb0 := Lib.hid (HLb0.out.kept hw (.inl (by omega)))
  replace HLb1 := Lib.hid (HLb1.out.kept hw (.inl (by omega)))
  replace HZ1 := Lib.hid (HZ1.out.kept hw (.inr (by omega)))
  replace HL0b := Lib.hid (HL0b.out.within hw (by omega))
  replace HL0e := Lib.hid (HL0e.out.within hw (by omega))
  replace HL1a := Lib.hid (HL1a.out.within hw (by omega))
  replace HL1b := Lib.hid (HL1b.out.within hw (by omega))
  replace HL1c := Lib.hid (HL1c.out.within hw (by omega))
  replace HW := Lib.hid (HW.out.trans hw)
  replace HC := Lib.hid hc
  clear hc hw hC
  clear z_0_0 z_0_1 z_0_2 z_1_0 z_1_1 z_2_0 z_2_1 z_2_2 z_3_0 z_3_1 z_3_2 z_4_0 z_4_1 z_5_0 z_5_1 z_5_2
  have r_HX0_0 := HX0.out.cell (i := 0) rfl
  have r_HX0_1 := HX0.out.cell (i := 1) rfl
  have r_HX0_2 := HX0.out.cell (i := 2) rfl
  have fr_HX0 := fun j => HX0.out.frozen j
  have r_HX1_0 := HX1.out.cell (i := 0) rfl
  have r_HX1_1 := HX1.out.cell (i := 1) rfl
  have fr_HX1 := fun j => HX1.out.frozen j
  have r_HX2_0 := HX2.out.cell (i := 0) rfl
  have r_HX2_1 := HX2.out.cell (i := 1) rfl
  have r_HX2_2 := HX2.out.cell (i := 2) rfl
  have fr_HX2 := fun j => HX2.out.frozen j
  go_wp2_with fail
  refine NoPanic.normal ?_
  have FHX0 := Lib.hid HX0.out
  have FHX1 := Lib.hid HX1.out
  have FHX2 := Lib.hid HX2.out
  clear r_HX0_0 r_HX0_1 r_HX0_2 fr_HX0 r_HX1_0 r_HX1_1 fr_HX1 r_HX2_0 r_HX2_1 r_HX2_2 fr_HX2
  cases qq5b with
  | false =>
    have z_0_0 := HX0.out.cell (i := 0) rfl
    have z_0_1 := HX0.out.cell (i := 1) rfl
    have z_0_2 := HX0.out.cell (i := 2) rfl
    have z_1_0 := HX1.out.cell (i := 0) rfl
    have z_1_1 := HX1.out.cell (i := 1) rfl
    have z_2_0 := HX2.out.cell (i := 0) rfl
    have z_2_1 := HX2.out.cell (i := 1) rfl
    have z_2_2 := HX2.out.cell (i := 2) rfl
    have z_3_0 := HLb0.out.cell (i := 0) rfl
    have z_3_1 := HLb0.out.cell (i := 1) rfl
    have z_3_2 := HLb0.out.cell (i := 2) rfl
    have z_4_0 := HLb1.out.cell (i := 0) rfl
    have z_4_1 := HLb1.out.cell (i := 1) rfl
    have z_5_0 := HZ1.out.cell (i := 0) rfl
    have z_5_1 := HZ1.out.cell (i := 1) rfl
    have z_5_2 := HZ1.out.cell (i := 2) rfl
    try (go_wp2_with fail)
    clear z_0_0 z_0_1 z_0_2 z_1_0 z_1_1 z_2_0 z_2_1 z_2_2 z_3_0 z_3_1 z_3_2 z_4_0 z_4_1 z_5_0 z_5_1 z_5_2
    refine (spec_anyElement U g _ P Q G _ HC.out (HW.out.belowOf HUC.out (Nat.le_of_eq HUS.out)) (by omega) HGR.out).mono ?_
    rintro e u4 ⟨⟨x4, rfl, x4l, x4u⟩, hc, hw⟩
    have hsz4 := hw.size
    replace HX0 := Lib.hid (HX0.out.kept hw (.inl (by omega)))
    replace HX1 := Lib.hid (HX1.out.kept hw (.inl (by omega)))
    replace HX2 := Lib.hid (HX2.out.kept hw (.inl (by omega)))
    replace HLb0 := Lib.hid (HLb0.out.kept hw (.inl (by omega)))
    replace HLb1 := Lib.hid (HLb1.out.kept hw (.inl (by omega)))
    replace HZ1 := Lib.hid (HZ1.out.kept hw (.inr (by omega)))
    replace HL0b := Lib.hid (HL0b.out.within hw (by omega))
    replace HL0e := Lib.hid (HL0e.out.within hw (by omega))
    replace HL1a := Lib.hid (HL1a.out.within hw (by omega))
    replace HL1b := Lib.hid (HL1b.out.within hw (by omega))
    replace HL1c := Lib.hid (HL1c.out.within hw (by omega))
    replace HW := Lib.hid (HW.out.trans hw)
    replace HC := Lib.hid hc
    clear hc hw
    have z_0_0 := HX0.out.cell (i := 0) rfl
    have z_0_1 := HX0.out.cell (i := 1) rfl
    have z_0_2 := HX0.out.cell (i := 2) rfl
    have z_1_0 := HX1.out.cell (i := 0) rfl
    have z_1_1 := HX1.out.cell (i := 1) rfl
    have z_2_0 := HX2.out.cell (i := 0) rfl
    have z_2_1 := HX2.out.cell (i := 1) rfl
    have z_2_2 := HX2.out.cell (i := 2) rfl
    have z_3_0 := HLb0.out.cell (i := 0) rfl
    have z_3_1 := HLb0.out.cell (i := 1) rfl
    have z_3_2 := HLb0.out.cell (i := 2) rfl
    have z_4_0 := HLb1.out.cell (i := 0) rfl
    have z_4_1 := HLb1.out.cell (i := 1) rfl
    have z_5_0 := HZ1.out.cell (i := 0) rfl
    have z_5_1 := HZ1.out.cell (i := 1) rfl
    have z_5_2 := HZ1.out.cell (i := 2) rfl
    try (go_wp2_with fail)
    clear z_0_0
    clear z_0_1
    clear z_0_2
    clear z_1_0
    clear z_1_1
    clear z_2_0
    clear z_2_1
    clear z_2_2
    refine wp_region_noPanic ?_
    refine wp_region_V (fun w' => w'.cell? ⟨R1.heap.size, 0, none⟩ = some (.int .i64 P) ∧ w'.cell? ⟨R1.heap.size, 1, none⟩ = some (.int .i64 Q) ∧ w'.cell? ⟨R1.heap.size, 2, none⟩ = some (.int .i64 G) ∧ w'.cell? ⟨R1.heap.size + 1, 0, none⟩ = some (.int .i64 h0b) ∧ w'.cell? ⟨R1.heap.size + 1, 1, none⟩ = some (.slice a0b n0b c0b) ∧ w'.cell? ⟨u1.heap.size, 0, none⟩ = some (.slice a1a n1a_ c1a) ∧ w'.cell? ⟨u1.heap.size, 1, none⟩ = some (.slice a1b n1b_ c1b) ∧ w'.cell? ⟨u1.heap.size, 2, none⟩ = some (.slice a1c n1c_ c1c)) 13 11 (.rd 0 (.rd 1 (.rd 2 (.rd 3 (.rd 4 (.rd 5 (.alt 6 (.alt 7 (.alt 8 (.alt 9 (.alt 10 .done .nil) .nil) .nil) .nil) .nil))))))) [] (by kernel_rfl) (by kernel_rfl) rfl (fun _ _ _ _ _ h => h) ⟨box_at z_3_0 (Below.refl _ _).drew, box_at z_3_1 (Below.refl _ _).drew, box_at z_3_2 (Below.refl _ _).drew, box_at z_4_0 (Below.refl _ _).drew, box_at z_4_1 (Below.refl _ _).drew, box_at z_5_0 (Below.refl _ _).drew, box_at z_5_1 (Below.refl _ _).drew, box_at z_5_2 (Below.refl _ _).drew⟩ ?_
    simp only [pickV, pickN, List.getElem?_cons_zero, List.getElem?_cons_succ]
    repeat (refine' wpV_read _ (by kernel_rfl) (fun w' hS' => ?_) ?_; rotate_left; · ((try dsimp only at hS'); go_simp; (try with_reducible rfl)); (try simp only [Act.put, List.setIfInBounds_toArray, List.set_cons_zero, List.set_cons_succ]))
    have hdr : Below u4.heap.size u4 u4.drew := (Below.refl _ _).drew
    have hszd := hdr.size
    replace HX0 := Lib.hid (HX0.out.below hdr)
    replace HX1 := Lib.hid (HX1.out.below hdr)
    replace HX2 := Lib.hid (HX2.out.below hdr)
    replace HLb0 := Lib.hid (HLb0.out.below hdr)
    replace HLb1 := Lib.hid (HLb1.out.below hdr)
    replace HZ1 := Lib.hid (HZ1.out.below hdr)
    replace HL0b := Lib.hid (HL0b.out.below hdr)
    replace HL0e := Lib.hid (HL0e.out.below hdr)
    replace HL1a := Lib.hid (HL1a.out.below hdr)
    replace HL1b := Lib.hid (HL1b.out.below hdr)
    replace HL1c := Lib.hid (HL1c.out.below hdr)
    replace HW := Lib.hid (HW.out.trans (Within.of_below hdr))
    replace HC := Lib.hid (HC.out.keep hdr)
    clear hdr
    refine wpV_do (by kernel_rfl) (fun K hK => ?_)
    -- 6: call
    go_simp
    go_at_call 201
    refine (spec_spoiltProof U g _ P Q G _ _ _ l1a l1b l1c _ HC.out (HW.out.belowOf HUC.out (Nat.le_of_eq HUS.out)) (by omega) HGR.out HL1a.out.here HL1b.out.here HL1c.out.here (by have := HE1a.out; omega) (by have := HE1b.out; omega) (by have := HE1c.out; omega)).mono ?_
    rintro e ut1 ⟨⟨vt1a, vt1b, vt1c, lt1a, lt1b, lt1c, rfl, ⟨hst1a, hlt1a⟩, ⟨hst1b, hlt1b⟩, ⟨hst1c, hlt1c⟩⟩, hc, hw⟩
    have HLt1a := Lib.hid hst1a
    obtain ⟨at1a, nt1a, ct1a, rfl⟩ := hst1a.here.shape
    have hnt1a : nt1a ≤ 31 := by have h1 := hst1a.here.len; omega
    have HEt1a := Lib.hid hst1a.here.len
    clear hst1a
    have HLt1b := Lib.hid hst1b
    obtain ⟨at1b, nt1b, ct1b, rfl⟩ := hst1b.here.shape
    have hnt1b : nt1b ≤ 31 := by have h1 := hst1b.here.len; omega
    have HEt1b := Lib.hid hst1b.here.len
    clear hst1b
    have HLt1c := Lib.hid hst1c
    obtain ⟨at1c, nt1c, ct1c, rfl⟩ := hst1c.here.shape
    have hnt1c : nt1c ≤ 31 := by have h1 := hst1c.here.len; omega
    have HEt1c := Lib.hid hst1c.here.len
    clear hst1c
    have hszt1 := hw.size
    replace HX0 := Lib.hid (HX0.out.kept hw (.inl (by omega)))
    replace HX1 := Lib.hid (HX1.out.kept hw (.inl (by omega)))
    replace HX2 := Lib.hid (HX2.out.kept hw (.inl (by omega)))
    replace HLb0 := Lib.hid (HLb0.out.kept hw (.inl (by omega)))
    replace HLb1 := Lib.hid (HLb1.out.kept hw (.inl (by omega)))
    replace HZ1 := Lib.hid (HZ1.out.kept hw (.inr (by omega)))
    replace HL0b := Lib.hid (HL0b.out.within hw (by omega))
    replace HL0e := Lib.hid (HL0e.out.within hw (by omega))
    replace HL1a := Lib.hid (HL1a.out.within hw (by omega))
    replace HL1b := Lib.hid (HL1b.out.within hw (by omega))
    replace HL1c := Lib.hid (HL1c.out.within hw (by omega))
    replace HW := Lib.hid (HW.out.trans hw)
    replace HC := Lib.hid hc
    clear hc hw
    clear z_3_0 z_3_1 z_3_2 z_4_0 z_4_1 z_5_0 z_5_1 z_5_2
    have z_3_0 := HLb0.out.cell (i := 0) rfl
    have z_3_1 := HLb0.out.cell (i := 1) rfl
    have z_3_2 := HLb0.out.cell (i := 2) rfl
    have z_4_0 := HLb1.out.cell (i := 0) rfl
    have z_4_1 := HLb1.out.cell (i := 1) rfl
    have z_5_0 := HZ1.out.cell (i := 0) rfl
    have z_5_1 := HZ1.out.cell (i := 1) rfl
    have z_5_2 := HZ1.out.cell (i := 2) rfl
    refine hK.out _ _ ⟨z_3_0, z_3_1, z_3_2, z_4_0, z_4_1, z_5_0, z_5_1, z_5_2⟩ (fun _ => ?_)
    clear hK K
    (try simp only [Act.put, List.setIfInBounds_toArray, List.set_cons_zero, List.set_cons_succ])
    refine wpV_do (by kernel_rfl) (fun K hK => ?_)
    -- 7: store
    have r0 := HX0.out.cell (i := 0) rfl
    have r1 := HX0.out.cell (i := 1) rfl
    have r2 := HX0.out.cell (i := 2) rfl
    have fr := fun j => HX0.out.frozen j
    obtain ⟨Y2, hY⟩ : ∃ Y, Y = ((ut1.setCell ⟨w.heap.size, 0, none⟩ (.int .i64 P)).setCell ⟨w.heap.size, 1, none⟩ (.int .i64 Q)).setCell ⟨w.heap.size, 2, none⟩ (.int .i64 G) := ⟨_, rfl⟩
    have hYl : Within (w.heap.size) (w.heap.size + 1) ut1 Y2 := by rw [hY]; exact ((((Within.refl (w.heap.size) (w.heap.size + 1) ut1).setCell (b := w.heap.size) (by omega) (by omega) 0 (.int .i64 P)).setCell (b := w.heap.size) (by omega) (by omega) 1 (.int .i64 Q)).setCell (b := w.heap.size) (by omega) (by omega) 2 (.int .i64 G))
    have HYW : Hid (Within w.heap.size (w.heap.size + 3) ut1 Y2) := hYl.mono (by omega) (by omega)
    have HYB : Hid (Below w.heap.size w Y2) := hYl.belowU (HW.out.belowOf HBW.out (by omega)) (by omega)
    have HCS : Hid (∀ w', Within w.heap.size (w.heap.size + 3) ut1 w' → w'.cell? ⟨R1.heap.size, 0, none⟩ = some (.int .i64 P) ∧ w'.cell? ⟨R1.heap.size, 1, none⟩ = some (.int .i64 Q) ∧ w'.cell? ⟨R1.heap.size, 2, none⟩ = some (.int .i64 G) ∧ w'.cell? ⟨R1.heap.size + 1, 0, none⟩ = some (.int .i64 h0b) ∧ w'.cell? ⟨R1.heap.size + 1, 1, none⟩ = some (.slice a0b n0b c0b) ∧ w'.cell? ⟨u1.heap.size, 0, none⟩ = some (.slice a1a n1a_ c1a) ∧ w'.cell? ⟨u1.heap.size, 1, none⟩ = some (.slice a1b n1b_ c1b) ∧ w'.cell? ⟨u1.heap.size, 2, none⟩ = some (.slice a1c n1c_ c1c)) := fun w' h => ⟨within_at h z_3_0 (by omega), within_at h z_3_1 (by omega), within_at h z_3_2 (by omega), within_at h z_4_0 (by omega), within_at h z_4_1 (by omega), within_at h z_5_0 (by omega), within_at h z_5_1 (by omega), within_at h z_5_2 (by omega)⟩
    go_simp
    refine hK.out _ _ ?_ (fun _ => ?_)
    · rw [← hY]; exact HCS.out _ HYW.out
    rw [← hY]
    clear hK K fr r0 r1 r2
    replace HX0 : Hid (BoxN Y2 w.heap.size 39 [.int .i64 P, .int .i64 Q, .int .i64 G]) := by unfold Hid; rw [hY]; exact (((HX0.out.set 0 (.int .i64 P)).set 1 (.int .i64 Q)).set 2 (.int .i64 G))
    replace HX1 := Lib.hid (HX1.out.kept hYl (by omega))
    replace HX2 := Lib.hid (HX2.out.kept hYl (by omega))
    clear hY hYl
    (try simp only [Act.put, List.setIfInBounds_toArray, List.set_cons_zero, List.set_cons_succ])
    clear z_3_0 z_3_1 z_3_2 z_4_0 z_4_1 z_5_0 z_5_1 z_5_2
    obtain ⟨z_3_0, z_3_1, z_3_2, z_4_0, z_4_1, z_5_0, z_5_1, z_5_2⟩ := HCS.out _ HYW.out
    refine wpV_do (by kernel_rfl) (fun K hK => ?_)
    -- 8: store
    have r0 := HX1.out.cell (i := 0) rfl
    have r1 := HX1.out.cell (i := 1) rfl
    have fr := fun j => HX1.out.frozen j
    obtain ⟨Y3, hY⟩ : ∃ Y, Y = (Y2.setCell ⟨w.heap.size + 1, 0, none⟩ (.int .i64 h0b)).setCell ⟨w.heap.size + 1, 1, none⟩ (.slice a0b n0b c0b) := ⟨_, rfl⟩
    have hYl : Within (w.heap.size + 1) (w.heap.size + 1 + 1) Y2 Y3 := by rw [hY]; exact (((Within.refl (w.heap.size + 1) (w.heap.size + 1 + 1) Y2).setCell (b := w.heap.size + 1) (by omega) (by omega) 0 (.int .i64 h0b)).setCell (b := w.heap.size + 1) (by omega) (by omega) 1 (.slice a0b n0b c0b))
    replace HYW := Lib.hid (HYW.out.trans (hYl.mono (by omega) (by omega)))
    replace HYB := Lib.hid (hYl.belowU HYB.out (by omega))
    go_simp
    refine hK.out _ _ ?_ (fun _ => ?_)
    · rw [← hY]; exact HCS.out _ HYW.out
    rw [← hY]
    clear hK K fr r0 r1
    replace HX1 : Hid (BoxN Y3 (w.heap.size + 1) 79 [.int .i64 h0b, .slice a0b n0b c0b]) := by unfold Hid; rw [hY]; exact ((HX1.out.set 0 (.int .i64 h0b)).set 1 (.slice a0b n0b c0b))
    replace HX0 := Lib.hid (HX0.out.kept hYl (by omega))
    replace HX2 := Lib.hid (HX2.out.kept hYl (by omega))
    clear hY hYl
    (try simp only [Act.put, List.setIfInBounds_toArray, List.set_cons_zero, List.set_cons_succ])
    clear z_3_0 z_3_1 z_3_2 z_4_0 z_4_1 z_5_0 z_5_1 z_5_2
    obtain ⟨z_3_0, z_3_1, z_3_2, z_4_0, z_4_1, z_5_0, z_5_1, z_5_2⟩ := HCS.out _ HYW.out
    refine wpV_do (by kernel_rfl) (fun K hK => ?_)
    -- 9: load
    go_simp
    refine hK.out _ _ ⟨z_3_0, z_3_1, z_3_2, z_4_0, z_4_1, z_5_0, z_5_1, z_5_2⟩ (fun _ => ?_)
    clear hK K
    (try simp only [Act.put, List.setIfInBounds_toArray, List.set_cons_zero, List.set_cons_succ])
    refine wpV_do (by kernel_rfl) (fun K hK => ?_)
    -- 10: store
    have r0 := HX2.out.cell (i := 0) rfl
    have r1 := HX2.out.cell (i := 1) rfl
    have r2 := HX2.out.cell (i := 2) rfl
    have fr := fun j => HX2.out.frozen j
    obtain ⟨Y4, hY⟩ : ∃ Y, Y = ((Y3.setCell ⟨w.heap.size + 1 + 1, 0, none⟩ (.slice at1a nt1a ct1a)).setCell ⟨w.heap.size + 1 + 1, 1, none⟩ (.slice at1b nt1b ct1b)).setCell ⟨w.heap.size + 1 + 1, 2, none⟩ (.slice at1c nt1c ct1c) := ⟨_, rfl⟩
    have hYl : Within (w.heap.size + 1 + 1) (w.heap.size + 1 + 1 + 1) Y3 Y4 := by rw [hY]; exact ((((Within.refl (w.heap.size + 1 + 1) (w.heap.size + 1 + 1 + 1) Y3).setCell (b := w.heap.size + 1 + 1) (by omega) (by omega) 0 (.slice at1a nt1a ct1a)).setCell (b := w.heap.size + 1 + 1) (by omega) (by omega) 1 (.slice at1b nt1b ct1b)).setCell (b := w.heap.size + 1 + 1) (by omega) (by omega) 2 (.slice at1c nt1c ct1c))
    replace HYW := Lib.hid (HYW.out.trans (hYl.mono (by omega) (by omega)))
    replace HYB := Lib.hid (hYl.belowU HYB.out (by omega))
    go_simp
    refine hK.out _ _ ?_ (fun _ => ?_)
    · rw [← hY]; exact HCS.out _ HYW.out
    rw [← hY]
    clear hK K fr r0 r1 r2
    replace HX2 : Hid (BoxN Y4 (w.heap.size + 1 + 1) 42 [.slice at1a nt1a ct1a, .slice at1b nt1b ct1b, .slice at1c nt1c ct1c]) := by unfold Hid; rw [hY]; exact (((HX2.out.set 0 (.slice at1a nt1a ct1a)).set 1 (.slice at1b nt1b ct1b)).set 2 (.slice at1c nt1c ct1c))
    replace HX0 := Lib.hid (HX0.out.kept hYl (by omega))
    replace HX1 := Lib.hid (HX1.out.kept hYl (by omega))
    clear hY hYl
    (try simp only [Act.put, List.setIfInBounds_toArray, List.set_cons_zero, List.set_cons_succ])
    clear z_3_0 z_3_1 z_3_2 z_4_0 z_4_1 z_5_0 z_5_1 z_5_2
    obtain ⟨z_3_0, z_3_1, z_3_2, z_4_0, z_4_1, z_5_0, z_5_1, z_5_2⟩ := HCS.out _ HYW.out
    refine wpV_done ?_
    go_wp2_with fail
    refine NoPanic.normal ?_
    clear z_3_0 z_3_1 z_3_2 z_4_0 z_4_1 z_5_0 z_5_1 z_5_2
    have t_HX0_0 := HX0.out.cell (i := 0) rfl
    have t_HX0_1 := HX0.out.cell (i := 1) rfl
    have t_HX0_2 := HX0.out.cell (i := 2) rfl
    have t_HX1_0 := HX1.out.cell (i := 0) rfl
    have t_HX1_1 := HX1.out.cell (i := 1) rfl
    have t_HX2_0 := HX2.out.cell (i := 0) rfl
    have t_HX2_1 := HX2.out.cell (i := 1) rfl
    have t_HX2_2 := HX2.out.cell (i := 2) rfl
    try (go_wp2_with fail)
    refine bodyPost_ret (v := .tuple #[.agg #[.int .i64 P, .int .i64 Q, .int .i64 G], .agg #[.int .i64 h0b, .slice a0b n0b c0b], .int .i64 x4, .agg #[.slice at1a nt1a ct1a, .slice at1b nt1b ct1b, .slice at1c nt1c ct1c]]) (by simp [results, Try.results94, go_sem, t_HX0_0, t_HX0_1, t_HX0_2, t_HX1_0, t_HX1_1, t_HX2_0, t_HX2_1, t_HX2_2]) rfl ⟨⟨_, _, _, _, _, _, _, _, _, _, _, _, _, rfl, HGR.out, ⟨⟨by omega, by omega⟩, (HL0b.out.within HYW.out (by omega)).here, by have := HE0b.out; omega⟩, ⟨by omega, by omega⟩, ⟨⟨(HLt1a.out.within HYW.out (by omega)).here, by have := HEt1a.out; omega⟩, ⟨(HLt1b.out.within HYW.out (by omega)).here, by have := HEt1b.out; omega⟩, ⟨(HLt1c.out.within HYW.out (by omega)).here, by have := HEt1c.out; omega⟩⟩⟩, HYB.out⟩
  | true =>
    have z_0_0 := HX0.out.cell (i := 0) rfl
    have z_0_1 := HX0.out.cell (i := 1) rfl
    have z_0_2 := HX0.out.cell (i := 2) rfl
    have z_1_0 := HX1.out.cell (i := 0) rfl
    have z_1_1 := HX1.out.cell (i := 1) rfl
    have z_2_0 := HX2.out.cell (i := 0) rfl
    have z_2_1 := HX2.out.cell (i := 1) rfl
    have z_2_2 := HX2.out.cell (i := 2) rfl
    have z_3_0 := HLb0.out.cell (i := 0) rfl
    have z_3_1 := HLb0.out.cell (i := 1) rfl
    have z_3_2 := HLb0.out.cell (i := 2) rfl
    have z_4_0 := HLb1.out.cell (i := 0) rfl
    have z_4_1 := HLb1.out.cell (i := 1) rfl
    have z_5_0 := HZ1.out.cell (i := 0) rfl
    have z_5_1 := HZ1.out.cell (i := 1) rfl
    have z_5_2 := HZ1.out.cell (i := 2) rfl
    try (go_wp2_with fail)
    clear z_0_0 z_0_1 z_0_2 z_1_0 z_1_1 z_2_0 z_2_1 z_2_2 z_3_0 z_3_1 z_3_2 z_4_0 z_4_1 z_5_0 z_5_1 z_5_2
    refine (spec_one U g _ 8 _ HC.out (HW.out.belowOf HUC.out (Nat.le_of_eq HUS.out)) (by omega) ).mono ?_
    rintro e u4 ⟨⟨b4, rfl⟩, hc, hw⟩
    have hsz4 := hw.size
    replace HX0 := Lib.hid (HX0.out.kept hw (.inl (by omega)))
    replace HX1 := Lib.hid (HX1.out.kept hw (.inl (by omega)))
    replace HX2 := Lib.hid (HX2.out.kept hw (.inl (by omega)))
    replace HLb0 := Lib.hid (HLb0.out.kept hw (.inl (by omega)))
    replace HLb1 := Lib.hid (HLb1.out.kept hw (.inl (by omega)))
    replace HZ1 := Lib.hid (HZ1.out.kept hw (.inr (by omega)))
    replace HL0b := Lib.hid (HL0b.out.within hw (by omega))
    replace HL0e := Lib.hid (HL0e.out.within hw (by omega))
    replace HL1a := Lib.hid (HL1a.out.within hw (by omega))
    replace HL1b := Lib.hid (HL1b.out.within hw (by omega))
    replace HL1c := Lib.hid (HL1c.out.within hw (by omega))
    replace HW := Lib.hid (HW.out.trans hw)
    replace HC := Lib.hid hc
    clear hc hw
    cases b4 with
    | false =>
      have z_0_0 := HX0.out.cell (i := 0) rfl
      have z_0_1 := HX0.out.cell (i := 1) rfl
      have z_0_2 := HX0.out.cell (i := 2) rfl
      have z_1_0 := HX1.out.cell (i := 0) rfl
      have z_1_1 := HX1.out.cell (i := 1) rfl
      have z_2_0 := HX2.out.cell (i := 0) rfl
      have z_2_1 := HX2.out.cell (i := 1) rfl
      have z_2_2 := HX2.out.cell (i := 2) rfl
      have z_3_0 := HLb0.out.cell (i := 0) rfl
      have z_3_1 := HLb0.out.cell (i := 1) rfl
      have z_3_2 := HLb0.out.cell (i := 2) rfl
      have z_4_0 := HLb1.out.cell (i := 0) rfl
      have z_4_1 := HLb1.out.cell (i := 1) rfl
      have z_5_0 := HZ1.out.cell (i := 0) rfl
      have z_5_1 := HZ1.out.cell (i := 1) rfl
      have z_5_2 := HZ1.out.cell (i := 2) rfl
      try (go_wp2_with fail)
      clear z_0_0
      clear z_0_1
      clear z_0_2
      clear z_1_0
      clear z_1_1
      clear z_2_0
      clear z_2_1
      clear z_2_2
      refine wp_region_noPanic ?_
      refine wp_region_V (fun w' => w'.cell? ⟨R1.heap.size, 0, none⟩ = some (.int .i64 P) ∧ w'.cell? ⟨R1.heap.size, 1, none⟩ = some (.int .i64 Q) ∧ w'.cell? ⟨R1.heap.size, 2, none⟩ = some (.int .i64 G) ∧ w'.cell? ⟨R1.heap.size + 1, 0, none⟩ = some (.int .i64 h0b) ∧ w'.cell? ⟨R1.heap.size + 1, 1, none⟩ = some (.slice a0b n0b c0b) ∧ w'.cell? ⟨u1.heap.size, 0, none⟩ = some (.slice a1a n1a_ c1a) ∧ w'.cell? ⟨u1.heap.size, 1, none⟩ = some (.slice a1b n1b_ c1b) ∧ w'.cell? ⟨u1.heap.size, 2, none⟩ = some (.slice a1c n1c_ c1c)) 13 11 (.rd 0 (.rd 1 (.rd 2 (.rd 3 (.rd 4 (.rd 5 (.alt 6 (.alt 7 (.alt 8 (.alt 9 (.alt 10 .done .nil) .nil) .nil) .nil) .nil))))))) [] (by kernel_rfl) (by kernel_rfl) rfl (fun _ _ _ _ _ h => h) ⟨box_at z_3_0 (Below.refl _ _).drew, box_at z_3_1 (Below.refl _ _).drew, box_at z_3_2 (Below.refl _ _).drew, box_at z_4_0 (Below.refl _ _).drew, box_at z_4_1 (Below.refl _ _).drew, box_at z_5_0 (Below.refl _ _).drew, box_at z_5_1 (Below.refl _ _).drew, box_at z_5_2 (Below.refl _ _).drew⟩ ?_
      simp only [pickV, pickN, List.getElem?_cons_zero, List.getElem?_cons_succ]
      repeat (refine' wpV_read _ (by kernel_rfl) (fun w' hS' => ?_) ?_; rotate_left; · ((try dsimp only at hS'); go_simp; (try with_reducible rfl)); (try simp only [Act.put, List.setIfInBounds_toArray, List.set_cons_zero, List.set_cons_succ]))
      have hdr : Below u4.heap.size u4 u4.drew := (Below.refl _ _).drew
      have hszd := hdr.size
      replace HX0 := Lib.hid (HX0.out.below hdr)
      replace HX1 := Lib.hid (HX1.out.below hdr)
      replace HX2 := Lib.hid (HX2.out.below hdr)
      replace HLb0 := Lib.hid (HLb0.out.below hdr)
      replace HLb1 := Lib.hid (HLb1.out.below hdr)
      replace HZ1 := Lib.hid (HZ1.out.below hdr)
      replace HL0b := Lib.hid (HL0b.out.below hdr)
      replace HL0e := Lib.hid (HL0e.out.below hdr)
      replace HL1a := Lib.hid (HL1a.out.below hdr)
      replace HL1b := Lib.hid (HL1b.out.below hdr)
      replace HL1c := Lib.hid (HL1c.out.below hdr)
      replace HW := Lib.hid (HW.out.trans (Within.of_below hdr))
      replace HC := Lib.hid (HC.out.keep hdr)
      clear hdr
      refine wpV_do (by kernel_rfl) (fun K hK => ?_)
      -- 6: call
      go_simp
      go_at_call 201
      refine (spec_spoiltProof U g _ P Q G _ _ _ l1a l1b l1c _ HC.out (HW.out.belowOf HUC.out (Nat.le_of_eq HUS.out)) (by omega) HGR.out HL1a.out.here HL1b.out.here HL1c.out.here (by have := HE1a.out; omega) (by have := HE1b.out; omega) (by have := HE1c.out; omega)).mono ?_
      rintro e ut1 ⟨⟨vt1a, vt1b, vt1c, lt1a, lt1b, lt1c, rfl, ⟨hst1a, hlt1a⟩, ⟨hst1b, hlt1b⟩, ⟨hst1c, hlt1c⟩⟩, hc, hw⟩
      have HLt1a := Lib.hid hst1a
      obtain ⟨at1a, nt1a, ct1a, rfl⟩ := hst1a.here.shape
      have hnt1a : nt1a ≤ 31 := by have h1 := hst1a.here.len; omega
      have HEt1a := Lib.hid hst1a.here.len
      clear hst1a
      have HLt1b := Lib.hid hst1b
      obtain ⟨at1b, nt1b, ct1b, rfl⟩ := hst1b.here.shape
      have hnt1b : nt1b ≤ 31 := by have h1 := hst1b.here.len; omega
      have HEt1b := Lib.hid hst1b.here.len
      clear hst1b
      have HLt1c := Lib.hid hst1c
      obtain ⟨at1c, nt1c, ct1c, rfl⟩ := hst1c.here.shape
      have hnt1c : nt1c ≤ 31 := by have h1 := hst1c.here.len; omega
      have HEt1c := Lib.hid hst1c.here.len
      clear hst1c
      have hszt1 := hw.size
      replace HX0 := Lib.hid (HX0.out.kept hw (.inl (by omega)))
      replace HX1 := Lib.hid (HX1.out.kept hw (.inl (by omega)))
      replace HX2 := Lib.hid (HX2.out.kept hw (.inl (by omega)))
      replace HLb0 := Lib.hid (HLb0.out.kept hw (.inl (by omega)))
      replace HLb1 := Lib.hid (HLb1.out.kept hw (.inl (by omega)))
      replace HZ1 := Lib.hid (HZ1.out.kept hw (.inr (by omega)))
      replace HL0b := Lib.hid (HL0b.out.within hw (by omega))
      replace HL0e := Lib.hid (HL0e.out.within hw (by omega))
      replace HL1a := Lib.hid (HL1a.out.within hw (by omega))
      replace HL1b := Lib.hid (HL1b.out.within hw (by omega))
      replace HL1c := Lib.hid (HL1c.out.within hw (by omega))
      replace HW := Lib.hid (HW.out.trans hw)
      replace HC := Lib.hid hc
      clear hc hw
      clear z_3_0 z_3_1 z_3_2 z_4_0 z_4_1 z_5_0 z_5_1 z_5_2
      have z_3_0 := HLb0.out.cell (i := 0) rfl
      have z_3_1 := HLb0.out.cell (i := 1) rfl
      have z_3_2 := HLb0.out.cell (i := 2) rfl
      have z_4_0 := HLb1.out.cell (i := 0) rfl
      have z_4_1 := HLb1.out.cell (i := 1) rfl
      have z_5_0 := HZ1.out.cell (i := 0) rfl
      have z_5_1 := HZ1.out.cell (i := 1) rfl
      have z_5_2 := HZ1.out.cell (i := 2) rfl
      refine hK.out _ _ ⟨z_3_0, z_3_1, z_3_2, z_4_0, z_4_1, z_5_0, z_5_1, z_5_2⟩ (fun _ => ?_)
      clear hK K
      (try simp only [Act.put, List.setIfInBounds_toArray, List.set_cons_zero, List.set_cons_succ])
      refine wpV_do (by kernel_rfl) (fun K hK => ?_)
      -- 7: store
      have r0 := HX0.out.cell (i := 0) rfl
      have r1 := HX0.out.cell (i := 1) rfl
      have r2 := HX0.out.cell (i := 2) rfl
      have fr := fun j => HX0.out.frozen j
      obtain ⟨Y2, hY⟩ : ∃ Y, Y = ((ut1.setCell ⟨w.heap.size, 0, none⟩ (.int .i64 P)).setCell ⟨w.heap.size, 1, none⟩ (.int .i64 Q)).setCell ⟨w.heap.size, 2, none⟩ (.int .i64 G) := ⟨_, rfl⟩
      have hYl : Within (w.heap.size) (w.heap.size + 1) ut1 Y2 := by rw [hY]; exact ((((Within.refl (w.heap.size) (w.heap.size + 1) ut1).setCell (b := w.heap.size) (by omega) (by omega) 0 (.int .i64 P)).setCell (b := w.heap.size) (by omega) (by omega) 1 (.int .i64 Q)).setCell (b := w.heap.size) (by omega) (by omega) 2 (.int .i64 G))
      have HYW : Hid (Within w.heap.size (w.heap.size + 3) ut1 Y2) := hYl.mono (by omega) (by omega)
      have HYB : Hid (Below w.heap.size w Y2) := hYl.belowU (HW.out.belowOf HBW.out (by omega)) (by omega)
      have HCS : Hid (∀ w', Within w.heap.size (w.heap.size + 3) ut1 w' → w'.cell? ⟨R1.heap.size, 0, none⟩ = some (.int .i64 P) ∧ w'.cell? ⟨R1.heap.size, 1, none⟩ = some (.int .i64 Q) ∧ w'.cell? ⟨R1.heap.size, 2, none⟩ = some (.int .i64 G) ∧ w'.cell? ⟨R1.heap.size + 1, 0, none⟩ = some (.int .i64 h0b) ∧ w'.cell? ⟨R1.heap.size + 1, 1, none⟩ = some (.slice a0b n0b c0b) ∧ w'.cell? ⟨u1.heap.size, 0, none⟩ = some (.slice a1a n1a_ c1a) ∧ w'.cell? ⟨u1.heap.size, 1, none⟩ = some (.slice a1b n1b_ c1b) ∧ w'.cell? ⟨u1.heap.size, 2, none⟩ = some (.slice a1c n1c_ c1c)) := fun w' h => ⟨within_at h z_3_0 (by omega), within_at h z_3_1 (by omega), within_at h z_3_2 (by omega), within_at h z_4_0 (by omega), within_at h z_4_1 (by omega), within_at h z_5_0 (by omega), within_at h z_5_1 (by omega), within_at h z_5_2 (by omega)⟩
      go_simp
      refine hK.out _ _ ?_ (fun _ => ?_)
      · rw [← hY]; exact HCS.out _ HYW.out
      rw [← hY]
      clear hK K fr r0 r1 r2
      replace HX0 : Hid (BoxN Y2 w.heap.size 39 [.int .i64 P, .int .i64 Q, .int .i64 G]) := by unfold Hid; rw [hY]; exact (((HX0.out.set 0 (.int .i64 P)).set 1 (.int .i64 Q)).set 2 (.int .i64 G))
      replace HX1 := Lib.hid (HX1.out.kept hYl (by omega))
      replace HX2 := Lib.hid (HX2.out.kept hYl (by omega))
      clear hY hYl
      (try simp only [Act.put, List.setIfInBounds_toArray, List.set_cons_zero, List.set_cons_succ])
      clear z_3_0 z_3_1 z_3_2 z_4_0 z_4_1 z_5_0 z_5_1 z_5_2
      obtain ⟨z_3_0, z_3_1, z_3_2, z_4_0, z_4_1, z_5_0, z_5_1, z_5_2⟩ := HCS.out _ HYW.out
      refine wpV_do (by kernel_rfl) (fun K hK => ?_)
      -- 8: store
      have r0 := HX1.out.cell (i := 0) rfl
      have r1 := HX1.out.cell (i := 1) rfl
      have fr := fun j => HX1.out.frozen j
      obtain ⟨Y3, hY⟩ : ∃ Y, Y = (Y2.setCell ⟨w.heap.size + 1, 0, none⟩ (.int .i64 h0b)).setCell ⟨w.heap.size + 1, 1, none⟩ (.slice a0b n0b c0b) := ⟨_, rfl⟩
      have hYl : Within (w.heap.size + 1) (w.heap.size + 1 + 1) Y2 Y3 := by rw [hY]; exact (((Within.refl (w.heap.size + 1) (w.heap.size + 1 + 1) Y2).setCell (b := w.heap.size + 1) (by omega) (by omega) 0 (.int .i64 h0b)).setCell (b := w.heap.size + 1) (by omega) (by omega) 1 (.slice a0b n0b c0b))
      replace HYW := Lib.hid (HYW.out.trans (hYl.mono (by omega) (by omega)))
      replace HYB := Lib.hid (hYl.belowU HYB.out (by omega))
      go_simp
      refine hK.out _ _ ?_ (fun _ => ?_)
      · rw [← hY]; exact HCS.out _ HYW.out
      rw [← hY]
      clear hK K fr r0 r1
      replace HX1 : Hid (BoxN Y3 (w.heap.size + 1) 79 [.int .i64 h0b, .slice a0b n0b c0b]) := by unfold Hid; rw [hY]; exact ((HX1.out.set 0 (.int .i64 h0b)).set 1 (.slice a0b n0b c0b))
      replace HX0 := Lib.hid (HX0.out.kept hYl (by omega))
      replace HX2 := Lib.hid (HX2.out.kept hYl (by omega))
      clear hY hYl
      (try simp only [Act.put, List.setIfInBounds_toArray, List.set_cons_zero, List.set_cons_succ])
      clear z_3_0 z_3_1 z_3_2 z_4_0 z_4_1 z_5_0 z_5_1 z_5_2
      obtain ⟨z_3_0, z_3_1, z_3_2, z_4_0, z_4_1, z_5_0, z_5_1, z_5_2⟩ := HCS.out _ HYW.out
      refine wpV_do (by kernel_rfl) (fun K hK => ?_)
      -- 9: load
      go_simp
      refine hK.out _ _ ⟨z_3_0, z_3_1, z_3_2, z_4_0, z_4_1, z_5_0, z_5_1, z_5_2⟩ (fun _ => ?_)
      clear hK K
      (try simp only [Act.put, List.setIfInBounds_toArray, List.set_cons_zero, List.set_cons_succ])
      refine wpV_do (by kernel_rfl) (fun K hK => ?_)
      -- 10: store
      have r0 := HX2.out.cell (i := 0) rfl
      have r1 := HX2.out.cell (i := 1) rfl
      have r2 := HX2.out.cell (i := 2) rfl
      have fr := fun j => HX2.out.frozen j
      obtain ⟨Y4, hY⟩ : ∃ Y, Y = ((Y3.setCell ⟨w.heap.size + 1 + 1, 0, none⟩ (.slice at1a nt1a ct1a)).setCell ⟨w.heap.size + 1 + 1, 1, none⟩ (.slice at1b nt1b ct1b)).setCell ⟨w.heap.size + 1 + 1, 2, none⟩ (.slice at1c nt1c ct1c) := ⟨_, rfl⟩
      have hYl : Within (w.heap.size + 1 + 1) (w.heap.size + 1 + 1 + 1) Y3 Y4 := by rw [hY]; exact ((((Within.refl (w.heap.size + 1 + 1) (w.heap.size + 1 + 1 + 1) Y3).setCell (b := w.heap.size + 1 + 1) (by omega) (by omega) 0 (.slice at1a nt1a ct1a)).setCell (b := w.heap.size + 1 + 1) (by omega) (by omega) 1 (.slice at1b nt1b ct1b)).setCell (b := w.heap.size + 1 + 1) (by omega) (by omega) 2 (.slice at1c nt1c ct1c))
      replace HYW := Lib.hid (HYW.out.trans (hYl.mono (by omega) (by omega)))
      replace HYB := Lib.hid (hYl.belowU HYB.out (by omega))
      go_simp
      refine hK.out _ _ ?_ (fun _ => ?_)
      · rw [← hY]; exact HCS.out _ HYW.out
      rw [← hY]
      clear hK K fr r0 r1 r2
      replace HX2 : Hid (BoxN Y4 (w.heap.size + 1 + 1) 42 [.slice at1a nt1a ct1a, .slice at1b nt1b ct1b, .slice at1c nt1c ct1c]) := by unfold Hid; rw [hY]; exact (((HX2.out.set 0 (.slice at1a nt1a ct1a)).set 1 (.slice at1b nt1b ct1b)).set 2 (.slice at1c nt1c ct1c))
      replace HX0 := Lib.hid (HX0.out.kept hYl (by omega))
      replace HX1 := Lib.hid (HX1.out.kept hYl (by omega))
      clear hY hYl
      (try simp only [Act.put, List.setIfInBounds_toArray, List.set_cons_zero, List.set_cons_succ])
      clear z_3_0 z_3_1 z_3_2 z_4_0 z_4_1 z_5_0 z_5_1 z_5_2
      obtain ⟨z_3_0, z_3_1, z_3_2, z_4_0, z_4_1, z_5_0, z_5_1, z_5_2⟩ := HCS.out _ HYW.out
      refine wpV_done ?_
      go_wp2_with fail
      refine NoPanic.normal ?_
      clear z_3_0 z_3_1 z_3_2 z_4_0 z_4_1 z_5_0 z_5_1 z_5_2
      have t_HX0_0 := HX0.out.cell (i := 0) rfl
      have t_HX0_1 := HX0.out.cell (i := 1) rfl
      have t_HX0_2 := HX0.out.cell (i := 2) rfl
      have t_HX1_0 := HX1.out.cell (i := 0) rfl
      have t_HX1_1 := HX1.out.cell (i := 1) rfl
      have t_HX2_0 := HX2.out.cell (i := 0) rfl
      have t_HX2_1 := HX2.out.cell (i := 1) rfl
      have t_HX2_2 := HX2.out.cell (i := 2) rfl
      try (go_wp2_with fail)
      refine bodyPost_ret (v := .tuple #[.agg #[.int .i64 P, .int .i64 Q, .int .i64 G], .agg #[.int .i64 h0b, .slice a0b n0b c0b], .int .i64 rq5a, .agg #[.slice at1a nt1a ct1a, .slice at1b nt1b ct1b, .slice at1c nt1c ct1c]]) (by simp [results, Try.results94, go_sem, t_HX0_0, t_HX0_1, t_HX0_2, t_HX1_0, t_HX1_1, t_HX2_0, t_HX2_1, t_HX2_2]) rfl ⟨⟨_, _, _, _, _, _, _, _, _, _, _, _, _, rfl, HGR.out, ⟨⟨by omega, by omega⟩, (HL0b.out.within HYW.out (by omega)).here, by have := HE0b.out; omega⟩, ⟨by omega, by omega⟩, ⟨⟨(HLt1a.out.within HYW.out (by omega)).here, by have := HEt1a.out; omega⟩, ⟨(HLt1b.out.within HYW.out (by omega)).here, by have := HEt1b.out; omega⟩, ⟨(HLt1c.out.within HYW.out (by omega)).here, by have := HEt1c.out; omega⟩⟩⟩, HYB.out⟩
    | true =>
      have z_0_0 := HX0.out.cell (i := 0) rfl
      have z_0_1 := HX0.out.cell (i := 1) rfl
      have z_0_2 := HX0.out.cell (i := 2) rfl
      have z_1_0 := HX1.out.cell (i := 0) rfl
      have z_1_1 := HX1.out.cell (i := 1) rfl
      have z_2_0 := HX2.out.cell (i := 0) rfl
      have z_2_1 := HX2.out.cell (i := 1) rfl
      have z_2_2 := HX2.out.cell (i := 2) rfl
      have z_3_0 := HLb0.out.cell (i := 0) rfl
      have z_3_1 := HLb0.out.cell (i := 1) rfl
      have z_3_2 := HLb0.out.cell (i := 2) rfl
      have z_4_0 := HLb1.out.cell (i := 0) rfl
      have z_4_1 := HLb1.out.cell (i := 1) rfl
      have z_5_0 := HZ1.out.cell (i := 0) rfl
      have z_5_1 := HZ1.out.cell (i := 1) rfl
      have z_5_2 := HZ1.out.cell (i := 2) rfl
      try (go_wp2_with fail)
      clear z_0_0 z_0_1 z_0_2 z_1_0 z_1_1 z_2_0 z_2_1 z_2_2 z_3_0 z_3_1 z_3_2 z_4_0 z_4_1 z_5_0 z_5_1 z_5_2
      refine (spec_anyElement U g _ P Q G _ HC.out (HW.out.belowOf HUC.out (Nat.le_of_eq HUS.out)) (by omega) HGR.out).mono ?_
      rintro e u5 ⟨⟨x5, rfl, x5l, x5u⟩, hc, hw⟩
      have hsz5 := hw.size
      replace HX0 := Lib.hid (HX0.out.kept hw (.inl (by omega)))
      replace HX1 := Lib.hid (HX1.out.kept hw (.inl (by omega)))
      replace HX2 := Lib.hid (HX2.out.kept hw (.inl (by omega)))
      replace HLb0 := Lib.hid (HLb0.out.kept hw (.inl (by omega)))
      replace HLb1 := Lib.hid (HLb1.out.kept hw (.inl (by omega)))
      replace HZ1 := Lib.hid (HZ1.out.kept hw (.inr (by omega)))
      replace HL0b := Lib.hid (HL0b.out.within hw (by omega))
      replace HL0e := Lib.hid (HL0e.out.within hw (by omega))
      replace HL1a := Lib.hid (HL1a.out.within hw (by omega))
      replace HL1b := Lib.hid (HL1b.out.within hw (by omega))
      replace HL1c := Lib.hid (HL1c.out.within hw (by omega))
      replace HW := Lib.hid (HW.out.trans hw)
      replace HC := Lib.hid hc
      clear hc hw
      have z_0_0 := HX0.out.cell (i := 0) rfl
      have z_0_1 := HX0.out.cell (i := 1) rfl
      have z_0_2 := HX0.out.cell (i := 2) rfl
      have z_1_0 := HX1.out.cell (i := 0) rfl
      have z_1_1 := HX1.out.cell (i := 1) rfl
      have z_2_0 := HX2.out.cell (i := 0) rfl
      have z_2_1 := HX2.out.cell (i := 1) rfl
      have z_2_2 := HX2.out.cell (i := 2) rfl
      have z_3_0 := HLb0.out.cell (i := 0) rfl
      have z_3_1 := HLb0.out.cell (i := 1) rfl
      have z_3_2 := HLb0.out.cell (i := 2) rfl
      have z_4_0 := HLb1.out.cell (i := 0) rfl
      have z_4_1 := HLb1.out.cell (i := 1) rfl
      have z_5_0 := HZ1.out.cell (i := 0) rfl
      have z_5_1 := HZ1.out.cell (i := 1) rfl
      have z_5_2 := HZ1.out.cell (i := 2) rfl
      try (go_wp2_with fail)
      clear z_0_0
      clear z_0_1
      clear z_0_2
      clear z_1_0
      clear z_1_1
      clear z_2_0
      clear z_2_1
      clear z_2_2
      refine wp_region_noPanic ?_
      refine wp_region_V (fun w' => w'.cell? ⟨R1.heap.size, 0, none⟩ = some (.int .i64 P) ∧ w'.cell? ⟨R1.heap.size, 1, none⟩ = some (.int .i64 Q) ∧ w'.cell? ⟨R1.heap.size, 2, none⟩ = some (.int .i64 G) ∧ w'.cell? ⟨R1.heap.size + 1, 0, none⟩ = some (.int .i64 h0b) ∧ w'.cell? ⟨R1.heap.size + 1, 1, none⟩ = some (.slice a0b n0b c0b) ∧ w'.cell? ⟨u1.heap.size, 0, none⟩ = some (.slice a1a n1a_ c1a) ∧ w'.cell? ⟨u1.heap.size, 1, none⟩ = some (.slice a1b n1b_ c1b) ∧ w'.cell? ⟨u1.heap.size, 2, none⟩ = some (.slice a1c n1c_ c1c)) 13 11 (.rd 0 (.rd 1 (.rd 2 (.rd 3 (.rd 4 (.rd 5 (.alt 6 (.alt 7 (.alt 8 (.alt 9 (.alt 10 .done .nil) .nil) .nil) .nil) .nil))))))) [] (by kernel_rfl) (by kernel_rfl) rfl (fun _ _ _ _ _ h => h) ⟨box_at z_3_0 (Below.refl _ _).drew, box_at z_3_1 (Below.refl _ _).drew, box_at z_3_2 (Below.refl _ _).drew, box_at z_4_0 (Below.refl _ _).drew, box_at z_4_1 (Below.refl _ _).drew, box_at z_5_0 (Below.refl _ _).drew, box_at z_5_1 (Below.refl _ _).drew, box_at z_5_2 (Below.refl _ _).drew⟩ ?_
      simp only [pickV, pickN, List.getElem?_cons_zero, List.getElem?_cons_succ]
      repeat (refine' wpV_read _ (by kernel_rfl) (fun w' hS' => ?_) ?_; rotate_left; · ((try dsimp only at hS'); go_simp; (try with_reducible rfl)); (try simp only [Act.put, List.setIfInBounds_toArray, List.set_cons_zero, List.set_cons_succ]))
      have hdr : Below u5.heap.size u5 u5.drew := (Below.refl _ _).drew
      have hszd := hdr.size
      replace HX0 := Lib.hid (HX0.out.below hdr)
      replace HX1 := Lib.hid (HX1.out.below hdr)
      replace HX2 := Lib.hid (HX2.out.below hdr)
      replace HLb0 := Lib.hid (HLb0.out.below hdr)
      replace HLb1 := Lib.hid (HLb1.out.below hdr)
      replace HZ1 := Lib.hid (HZ1.out.below hdr)
      replace HL0b := Lib.hid (HL0b.out.below hdr)
      replace HL0e := Lib.hid (HL0e.out.below hdr)
      replace HL1a := Lib.hid (HL1a.out.below hdr)
      replace HL1b := Lib.hid (HL1b.out.below hdr)
      replace HL1c := Lib.hid (HL1c.out.below hdr)
      replace HW := Lib.hid (HW.out.trans (Within.of_below hdr))
      replace HC := Lib.hid (HC.out.keep hdr)
      clear hdr
      refine wpV_do (by kernel_rfl) (fun K hK => ?_)
      -- 6: call
      go_simp
      go_at_call 201
      refine (spec_spoiltProof U g _ P Q G _ _ _ l1a l1b l1c _ HC.out (HW.out.belowOf HUC.out (Nat.le_of_eq HUS.out)) (by omega) HGR.out HL1a.out.here HL1b.out.here HL1c.out.here (by have := HE1a.out; omega) (by have := HE1b.out; omega) (by have := HE1c.out; omega)).mono ?_
      rintro e ut1 ⟨⟨vt1a, vt1b, vt1c, lt1a, lt1b, lt1c, rfl, ⟨hst1a, hlt1a⟩, ⟨hst1b, hlt1b⟩, ⟨hst1c, hlt1c⟩⟩, hc, hw⟩
      have HLt1a := Lib.hid hst1a
      obtain ⟨at1a, nt1a, ct1a, rfl⟩ := hst1a.here.shape
      have hnt1a : nt1a ≤ 31 := by have h1 := hst1a.here.len; omega
      have HEt1a := Lib.hid hst1a.here.len
      clear hst1a
      have HLt1b := Lib.hid hst1b
      obtain ⟨at1b, nt1b, ct1b, rfl⟩ := hst1b.here.shape
      have hnt1b : nt1b ≤ 31 := by have h1 := hst1b.here.len; omega
      have HEt1b := Lib.hid hst1b.here.len
      clear hst1b
      have HLt1c := Lib.hid hst1c
      obtain ⟨at1c, nt1c, ct1c, rfl⟩ := hst1c.here.shape
      have hnt1c : nt1c ≤ 31 := by have h1 := hst1c.here.len; omega
      have HEt1c := Lib.hid hst1c.here.len
      clear hst1c
      have hszt1 := hw.size
      replace HX0 := Lib.hid (HX0.out.kept hw (.inl (by omega)))
      replace HX1 := Lib.hid (HX1.out.kept hw (.inl (by omega)))
      replace HX2 := Lib.hid (HX2.out.kept hw (.inl (by omega)))
      replace HLb0 := Lib.hid (HLb0.out.kept hw (.inl (by omega)))
      replace HLb1 := Lib.hid (HLb1.out.kept hw (.inl (by omega)))
      replace HZ1 := Lib.hid (HZ1.out.kept hw (.inr (by omega)))
      replace HL0b := Lib.hid (HL0b.out.within hw (by omega))
      replace HL0e := Lib.hid (HL0e.out.within hw (by omega))
      replace HL1a := Lib.hid (HL1a.out.within hw (by omega))
      replace HL1b := Lib.hid (HL1b.out.within hw (by omega))
      replace HL1c := Lib.hid (HL1c.out.within hw (by omega))
      replace HW := Lib.hid (HW.out.trans hw)
      replace HC := Lib.hid hc
      clear hc hw
      clear z_3_0 z_3_1 z_3_2 z_4_0 z_4_1 z_5_0 z_5_1 z_5_2
      have z_3_0 := HLb0.out.cell (i := 0) rfl
      have z_3_1 := HLb0.out.cell (i := 1) rfl
      have z_3_2 := HLb0.out.cell (i := 2) rfl
      have z_4_0 := HLb1.out.cell (i := 0) rfl
      have z_4_1 := HLb1.out.cell (i := 1) rfl
      have z_5_0 := HZ1.out.cell (i := 0) rfl
      have z_5_1 := HZ1.out.cell (i := 1) rfl
      have z_5_2 := HZ1.out.cell (i := 2) rfl
      refine hK.out _ _ ⟨z_3_0, z_3_1, z_3_2, z_4_0, z_4_1, z_5_0, z_5_1, z_5_2⟩ (fun _ => ?_)
      clear hK K
      (try simp only [Act.put, List.setIfInBounds_toArray, List.set_cons_zero, List.set_cons_succ])
      refine wpV_do (by kernel_rfl) (fun K hK => ?_)
      -- 7: store
      have r0 := HX0.out.cell (i := 0) rfl
      have r1 := HX0.out.cell (i := 1) rfl
      have r2 := HX0.out.cell (i := 2) rfl
      have fr := fun j => HX0.out.frozen j
      obtain ⟨Y2, hY⟩ : ∃ Y, Y = ((ut1.setCell ⟨w.heap.size, 0, none⟩ (.int .i64 P)).setCell ⟨w.heap.size, 1, none⟩ (.int .i64 Q)).setCell ⟨w.heap.size, 2, none⟩ (.int .i64 G) := ⟨_, rfl⟩
      have hYl : Within (w.heap.size) (w.heap.size + 1) ut1 Y2 := by rw [hY]; exact ((((Within.refl (w.heap.size) (w.heap.size + 1) ut1).setCell (b := w.heap.size) (by omega) (by omega) 0 (.int .i64 P)).setCell (b := w.heap.size) (by omega) (by omega) 1 (.int .i64 Q)).setCell (b := w.heap.size) (by omega) (by omega) 2 (.int .i64 G))
      have HYW : Hid (Within w.heap.size (w.heap.size + 3) ut1 Y2) := hYl.mono (by omega) (by omega)
      have HYB : Hid (Below w.heap.size w Y2) := hYl.belowU (HW.out.belowOf HBW.out (by omega)) (by omega)
      have HCS : Hid (∀ w', Within w.heap.size (w.heap.size + 3) ut1 w' → w'.cell? ⟨R1.heap.size, 0, none⟩ = some (.int .i64 P) ∧ w'.cell? ⟨R1.heap.size, 1, none⟩ = some (.int .i64 Q) ∧ w'.cell? ⟨R1.heap.size, 2, none⟩ = some (.int .i64 G) ∧ w'.cell? ⟨R1.heap.size + 1, 0, none⟩ = some (.int .i64 h0b) ∧ w'.cell? ⟨R1.heap.size + 1, 1, none⟩ = some (.slice a0b n0b c0b) ∧ w'.cell? ⟨u1.heap.size, 0, none⟩ = some (.slice a1a n1a_ c1a) ∧ w'.cell? ⟨u1.heap.size, 1, none⟩ = some (.slice a1b n1b_ c1b) ∧ w'.cell? ⟨u1.heap.size, 2, none⟩ = some (.slice a1c n1c_ c1c)) := fun w' h => ⟨within_at h z_3_0 (by omega), within_at h z_3_1 (by omega), within_at h z_3_2 (by omega), within_at h z_4_0 (by omega), within_at h z_4_1 (by omega), within_at h z_5_0 (by omega), within_at h z_5_1 (by omega), within_at h z_5_2 (by omega)⟩
      go_simp
      refine hK.out _ _ ?_ (fun _ => ?_)
      · rw [← hY]; exact HCS.out _ HYW.out
      rw [← hY]
      clear hK K fr r0 r1 r2
      replace HX0 : Hid (BoxN Y2 w.heap.size 39 [.int .i64 P, .int .i64 Q, .int .i64 G]) := by unfold Hid; rw [hY]; exact (((HX0.out.set 0 (.int .i64 P)).set 1 (.int .i64 Q)).set 2 (.int .i64 G))
      replace HX1 := Lib.hid (HX1.out.kept hYl (by omega))
      replace HX2 := Lib.hid (HX2.out.kept hYl (by omega))
      clear hY hYl
      (try simp only [Act.put, List.setIfInBounds_toArray, List.set_cons_zero, List.set_cons_succ])
      clear z_3_0 z_3_1 z_3_2 z_4_0 z_4_1 z_5_0 z_5_1 z_5_2
      obtain ⟨z_3_0, z_3_1, z_3_2, z_4_0, z_4_1, z_5_0, z_5_1, z_5_2⟩ := HCS.out _ HYW.out
      refine wpV_do (by kernel_rfl) (fun K hK => ?_)
      -- 8: store
      have r0 := HX1.out.cell (i := 0) rfl
      have r1 := HX1.out.cell (i := 1) rfl
      have fr := fun j => HX1.out.frozen j
      obtain ⟨Y3, hY⟩ : ∃ Y, Y = (Y2.setCell ⟨w.heap.size + 1, 0, none⟩ (.int .i64 h0b)).setCell ⟨w.heap.size + 1, 1, none⟩ (.slice a0b n0b c0b) := ⟨_, rfl⟩
      have hYl : Within (w.heap.size + 1) (w.heap.size + 1 + 1) Y2 Y3 := by rw [hY]; exact (((Within.refl (w.heap.size + 1) (w.heap.size + 1 + 1) Y2).setCell (b := w.heap.size + 1) (by omega) (by omega) 0 (.int .i64 h0b)).setCell (b := w.heap.size + 1) (by omega) (by omega) 1 (.slice a0b n0b c0b))
      replace HYW := Lib.hid (HYW.out.trans (hYl.mono (by omega) (by omega)))
      replace HYB := Lib.hid (hYl.belowU HYB.out (by omega))
      go_simp
      refine hK.out _ _ ?_ (fun _ => ?_)
      · rw [← hY]; exact HCS.out _ HYW.out
      rw [← hY]
      clear hK K fr r0 r1
      replace HX1 : Hid (BoxN Y3 (w.heap.size + 1) 79 [.int .i64 h0b, .slice a0b n0b c0b]) := by unfold Hid; rw [hY]; exact ((HX1.out.set 0 (.int .i64 h0b)).set 1 (.slice a0b n0b c0b))
      replace HX0 := Lib.hid (HX0.out.kept hYl (by omega))
      replace HX2 := Lib.hid (HX2.out.kept hYl (by omega))
      clear hY hYl
      (try simp only [Act.put, List.setIfInBounds_toArray, List.set_cons_zero, List.set_cons_succ])
      clear z_3_0 z_3_1 z_3_2 z_4_0 z_4_1 z_5_0 z_5_1 z_5_2
      obtain ⟨z_3_0, z_3_1, z_3_2, z_4_0, z_4_1, z_5_0, z_5_1, z_5_2⟩ := HCS.out _ HYW.out
      refine wpV_do (by kernel_rfl) (fun K hK => ?_)
      -- 9: load
      go_simp
      refine hK.out _ _ ⟨z_3_0, z_3_1, z_3_2, z_4_0, z_4_1, z_5_0, z_5_1, z_5_2⟩ (fun _ => ?_)
      clear hK K
      (try simp only [Act.put, List.setIfInBounds_toArray, List.set_cons_zero, List.set_cons_succ])
      refine wpV_do (by kernel_rfl) (fun K hK => ?_)
      -- 10: store
      have r0 := HX2.out.cell (i := 0) rfl
      have r1 := HX2.out.cell (i := 1) rfl
      have r2 := HX2.out.cell (i := 2) rfl
      have fr := fun j => HX2.out.frozen j
      obtain ⟨Y4, hY⟩ : ∃ Y, Y = ((Y3.setCell ⟨w.heap.size + 1 + 1, 0, none⟩ (.slice at1a nt1a ct1a)).setCell ⟨w.heap.size + 1 + 1, 1, none⟩ (.slice at1b nt1b ct1b)).setCell ⟨w.heap.size + 1 + 1, 2, none⟩ (.slice at1c nt1c ct1c) := ⟨_, rfl⟩
      have hYl : Within (w.heap.size + 1 + 1) (w.heap.size + 1 + 1 + 1) Y3 Y4 := by rw [hY]; exact ((((Within.refl (w.heap.size + 1 + 1) (w.heap.size + 1 + 1 + 1) Y3).setCell (b := w.heap.size + 1 + 1) (by omega) (by omega) 0 (.slice at1a nt1a ct1a)).setCell (b := w.heap.size + 1 + 1) (by omega) (by omega) 1 (.slice at1b nt1b ct1b)).setCell (b := w.heap.size + 1 + 1) (by omega) (by omega) 2 (.slice at1c nt1c ct1c))
      replace HYW := Lib.hid (HYW.out.trans (hYl.mono (by omega) (by omega)))
      replace HYB := Lib.hid (hYl.belowU HYB.out (by omega))
      go_simp
      refine hK.out _ _ ?_ (fun _ => ?_)
      · rw [← hY]; exact HCS.out _ HYW.out
      rw [← hY]
      clear hK K fr r0 r1 r2
      replace HX2 : Hid (BoxN Y4 (w.heap.size + 1 + 1) 42 [.slice at1a nt1a ct1a, .slice at1b nt1b ct1b, .slice at1c nt1c ct1c]) := by unfold Hid; rw [hY]; exact (((HX2.out.set 0 (.slice at1a nt1a ct1a)).set 1 (.slice at1b nt1b ct1b)).set 2 (.slice at1c nt1c ct1c))
      replace HX0 := Lib.hid (HX0.out.kept hYl (by omega))
      replace HX1 := Lib.hid (HX1.out.kept hYl (by omega))
      clear hY hYl
      (try simp only [Act.put, List.setIfInBounds_toArray, List.set_cons_zero, List.set_cons_succ])
      clear z_3_0 z_3_1 z_3_2 z_4_0 z_4_1 z_5_0 z_5_1 z_5_2
      obtain ⟨z_3_0, z_3_1, z_3_2, z_4_0, z_4_1, z_5_0, z_5_1, z_5_2⟩ := HCS.out _ HYW.out
      refine wpV_done ?_
      go_wp2_with fail
      refine NoPanic.normal ?_
      clear z_3_0 z_3_1 z_3_2 z_4_0 z_4_1 z_5_0 z_5_1 z_5_2
      have t_HX0_0 := HX0.out.cell (i := 0) rfl
      have t_HX0_1 := HX0.out.cell (i := 1) rfl
      have t_HX0_2 := HX0.out.cell (i := 2) rfl
      have t_HX1_0 := HX1.out.cell (i := 0) rfl
      have t_HX1_1 := HX1.out.cell (i := 1) rfl
      have t_HX2_0 := HX2.out.cell (i := 0) rfl
      have t_HX2_1 := HX2.out.cell (i := 1) rfl
      have t_HX2_2 := HX2.out.cell (i := 2) rfl
      try (go_wp2_with fail)
      refine bodyPost_ret (v := .tuple #[.agg #[.int .i64 P, .int .i64 Q, .int .i64 G], .agg #[.int .i64 h0b, .slice a0b n0b c0b], .int .i64 x5, .agg #[.slice at1a nt1a ct1a, .slice at1b nt1b ct1b, .slice at1c nt1c ct1c]]) (by simp [results, Try.results94, go_sem, t_HX0_0, t_HX0_1, t_HX0_2, t_HX1_0, t_HX1_1, t_HX2_0, t_HX2_1, t_HX2_2]) rfl ⟨⟨_, _, _, _, _, _, _, _, _, _, _, _, _, rfl, HGR.out, ⟨⟨by omega, by omega⟩, (HL0b.out.within HYW.out (by omega)).here, by have := HE0b.out; omega⟩, ⟨by omega, by omega⟩, ⟨⟨(HLt1a.out.within HYW.out (by omega)).here, by have := HEt1a.out; omega⟩, ⟨(HLt1b.out.within HYW.out (by omega)).here, by have := HEt1b.out; omega⟩, ⟨(HLt1c.out.within HYW.out (by omega)).here, by have := HEt1c.out; omega⟩⟩⟩, HYB.out⟩
end Go.Proofs.Ytboahnklilmdpaa
