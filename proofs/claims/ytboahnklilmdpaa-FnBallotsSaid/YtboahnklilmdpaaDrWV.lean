/- Draws: casts to be checked: walk (printed by gen_drw.py). -/
import Derived.Test.YtboahnklilmdpaaOpLV
import Derived.Test.YtboahnklilmdpaaSpoilV
import Derived.Test.YtboahnklilmdpaaBentV
import Derived.Test.YtboahnklilmdpaaBal7V
namespace Go.Proofs.Ytboahnklilmdpaa
open Go.RowKit
set_option linter.unusedSimpArgs false
set_option linter.unusedVariables false

theorem caR_bd (gr : GroupD) (s : ByteArray) (key cred vote : Int) (cs : List Int) : (SmallC (caR gr s key cred vote cs).c ∧ SmallC (caR gr s key cred vote cs).v) ∧ ((caR gr s key cred vote cs).p.c.length ≤ 30 ∧ (caR gr s key cred vote cs).p.h.length ≤ 30 ∧ (caR gr s key cred vote cs).p.r.length ≤ 30) := by
  unfold caR
  split
  · rename_i h
    have hg := goodG_ok (caB_parts h).1
    exact ⟨⟨enC_small hg _ _ _, enC_small hg _ _ _⟩, ⟨by simp [caD], by simp [caD], by simp [caD]⟩⟩
  · exact ⟨⟨⟨⟨by decide, by decide⟩, ⟨by decide, by decide⟩⟩, ⟨⟨by decide, by decide⟩, ⟨by decide, by decide⟩⟩⟩, ⟨by simp, by simp, by simp⟩⟩
set_option maxRecDepth 100000 in
set_option maxHeartbeats 4000000 in
theorem spec_DrawVerifyCast (v : Value) (w : World) (h : Bytes w v) :
    Calls Try.prog 72 #[v] w fun e w' => (∃ (P : Int) (Q : Int) (G : Int) (xr11 : Int) (xr12 : Int) (xr13 : Int) (xr14 : Int) (vr1a : Value) (vr1b : Value) (vr1c : Value) (lr1a : List Int) (lr1b : List Int) (lr1c : List Int), e = .returned (.tuple #[.agg #[.int .i64 P, .int .i64 Q, .int .i64 G], .agg #[.int .i64 xr11, .int .i64 xr12, .int .i64 xr13, .int .i64 xr14, vr1a, vr1b, vr1c]]) ∧ GrB ⟨P, Q, G⟩ ∧ ((-10 ≤ xr11 ∧ xr11 ≤ 2000000010) ∧ (-10 ≤ xr12 ∧ xr12 ≤ 2000000010)) ∧ ((-10 ≤ xr13 ∧ xr13 ≤ 2000000010) ∧ (-10 ≤ xr14 ∧ xr14 ≤ 2000000010)) ∧ (Ints w' vr1a lr1a ∧ lr1a.length ≤ 31) ∧ (Ints w' vr1b lr1b ∧ lr1b.length ≤ 31) ∧ (Ints w' vr1c lr1c ∧ lr1c.length ≤ 31)) ∧ Below w.heap.size w w' := by
  obtain ⟨a, m, c, rfl, hk1, hk2, hv⟩ := h
  have HY : Hid (Bytes w (.slice a m c)) := ⟨a, m, c, rfl, hk1, hk2, hv⟩
  clear hv
  unfold maxLen at hk2
  obtain ⟨U, hU⟩ : ∃ U, U = (w.alloc (.cells #[.int .i64 0, .int .i64 0, .int .i64 0] 39)).alloc (.cells #[.int .i64 0, .int .i64 0, .int .i64 0, .int .i64 0, (.slice none 0 0), (.slice none 0 0), (.slice none 0 0)] 104) := ⟨_, rfl⟩
  have hbU : Below w.heap.size w U := by rw [hU]; (repeat (first | exact Below.refl _ _ | assumption | refine Below.drew ?_ | refine Below.alloc ?_ (by first | (simp; done) | (simp; omega)) _ | refine Below.setCell ?_ (by first | (simp; done) | (simp; omega)) _))
  have HX0 : Hid (BoxN U w.heap.size 39 [.int .i64 0, .int .i64 0, .int .i64 0]) := by unfold Hid; rw [hU]; have h := ((BoxN.new w [.int .i64 0, .int .i64 0, .int .i64 0] 39).alloc (.cells #[.int .i64 0, .int .i64 0, .int .i64 0, .int .i64 0, (.slice none 0 0), (.slice none 0 0), (.slice none 0 0)] 104)); simpa using h
  have HX1 : Hid (BoxN U (w.heap.size + 1) 104 [.int .i64 0, .int .i64 0, .int .i64 0, .int .i64 0, (.slice none 0 0), (.slice none 0 0), (.slice none 0 0)]) := by unfold Hid; rw [hU]; have h := (BoxN.new (w.alloc (.cells #[.int .i64 0, .int .i64 0, .int .i64 0] 39)) [.int .i64 0, .int .i64 0, .int .i64 0, .int .i64 0, (.slice none 0 0), (.slice none 0 0), (.slice none 0 0)] 104); simpa using h
  have hsU : U.heap.size = w.heap.size + 1 + 1 := by rw [hU]; simp
  obtain ⟨W, hW⟩ : ∃ W, W = U.alloc (.cells #[.slice a m c, .int .i64 0, .int .u64 0] 170) := ⟨_, rfl⟩
  have HC : Hid (Cur U W U.heap.size 0) := by unfold Hid; rw [hW]; exact Cur.new U (HY.out.below hbU)
  have hbW : Below U.heap.size U W := by rw [hW]; exact (Below.refl _ _).alloc (Nat.le_refl _) _
  have HBW := Lib.hid (Below.next hbU hbW)
  have HUB := Lib.hid hbW
  replace HX0 := Lib.hid (HX0.out.below hbW)
  replace HX1 := Lib.hid (HX1.out.below hbW)
  obtain ⟨g, hg⟩ : ∃ g, g = U.heap.size := ⟨_, rfl⟩
  have HSU : Hid (w.heap.size + 1 + 1 = g) := by unfold Hid; rw [hg, hsU]
  have HWS : Hid (W.heap.size = g + 1) := by unfold Hid; rw [hW, hg]; simp
  go_enter Try.func72, Try.ntmps72
  go_wp2_with fail
  rw [← hU, ← hW]
  rw [HSU.out]
  rw [← hg] at HC HUB
  have HUS : Hid (U.heap.size = g) := hg.symm
  have hwg : w.heap.size + 2 = g := HSU.out
  have hsW := HWS.out
  have HW := Lib.hid (Within.refl g (g + 1) W)
  have HUC : Hid (Below U.heap.size U W) := by unfold Hid; rw [HUS.out]; exact HUB.out
  clear hU hW hbU hbW hsU hg
  have z_0_0 := HX0.out.cell (i := 0) rfl
  have z_0_1 := HX0.out.cell (i := 1) rfl
  have z_0_2 := HX0.out.cell (i := 2) rfl
  have z_1_0 := HX1.out.cell (i := 0) rfl
  have z_1_1 := HX1.out.cell (i := 1) rfl
  have z_1_2 := HX1.out.cell (i := 2) rfl
  have z_1_3 := HX1.out.cell (i := 3) rfl
  have z_1_4 := HX1.out.cell (i := 4) rfl
  have z_1_5 := HX1.out.cell (i := 5) rfl
  have z_1_6 := HX1.out.cell (i := 6) rfl
  try (go_wp2_with fail)
  clear z_0_0 z_0_1 z_0_2 z_1_0 z_1_1 z_1_2 z_1_3 z_1_4 z_1_5 z_1_6
  refine (spec_DrawCastVoteS _ _ (HY.out.below (HW.out.belowOf HBW.out (by omega)))).mono ?_
  rintro e u1 ⟨⟨P, Q, G, x1a, x1b, x1c, v1d, l1d, rfl, hgr, ⟨x1al, x1au⟩, ⟨x1bl, x1bu⟩, ⟨x1cl, x1cu⟩, ⟨hs1d, hl1d⟩⟩, hb⟩
  have HGR := Lib.hid hgr
  clear hgr
  have HL1d := Lib.hid hs1d
  obtain ⟨a1d, n1d, c1d, rfl⟩ := hs1d.here.shape
  have HE1d := Lib.hid hs1d.here.len
  clear hs1d
  have hsz1 := hb.size
  replace HX0 := Lib.hid (HX0.out.below hb)
  replace HX1 := Lib.hid (HX1.out.below hb)
  replace HW := Lib.hid (HW.out.trans (Within.of_below hb))
  replace HC := Lib.hid (HC.out.keep hb)
  clear hb
  have z_0_0 := HX0.out.cell (i := 0) rfl
  have z_0_1 := HX0.out.cell (i := 1) rfl
  have z_0_2 := HX0.out.cell (i := 2) rfl
  have z_1_0 := HX1.out.cell (i := 0) rfl
  have z_1_1 := HX1.out.cell (i := 1) rfl
  have z_1_2 := HX1.out.cell (i := 2) rfl
  have z_1_3 := HX1.out.cell (i := 3) rfl
  have z_1_4 := HX1.out.cell (i := 4) rfl
  have z_1_5 := HX1.out.cell (i := 5) rfl
  have z_1_6 := HX1.out.cell (i := 6) rfl
  have lt_HX0 := HX0.out.lt
  have lt_HX1 := HX1.out.lt
  obtain ⟨V2, hV⟩ : ∃ V, V = u1.alloc (.cells #[.int .i64 P, .int .i64 Q, .int .i64 G] 39) := ⟨_, rfl⟩
  have hbV : Below u1.heap.size u1 V2 := by rw [hV]; (repeat (first | exact Below.refl _ _ | assumption | refine Below.drew ?_ | refine Below.alloc ?_ (by first | (simp; done) | (simp; omega)) _ | refine Below.setCell ?_ (by first | (simp; done) | (simp; omega)) _))
  have HZ1 : Hid (BoxN V2 u1.heap.size 39 [.int .i64 P, .int .i64 Q, .int .i64 G]) := by unfold Hid; rw [hV]; have h := (BoxN.new u1 [.int .i64 P, .int .i64 Q, .int .i64 G] 39); simpa using h
  have hgc : g < u1.heap.size := HC.out.lt
  go_wp2_with fail
  rw [← hV]
  have hsV2 : V2.heap.size = u1.heap.size + 1 := by rw [hV]; simp
  clear hV hgc
  replace HX0 := Lib.hid (HX0.out.below hbV)
  replace HX1 := Lib.hid (HX1.out.below hbV)
  replace HL1d := Lib.hid (HL1d.out.below hbV)
  replace HW := Lib.hid (HW.out.trans (Within.of_below hbV))
  replace HC := Lib.hid (HC.out.keep hbV)
  clear hbV
  clear z_0_0 z_0_1 z_0_2 z_1_0 z_1_1 z_1_2 z_1_3 z_1_4 z_1_5 z_1_6
  clear lt_HX0
  clear lt_HX1
  refine (spec_CastVote ⟨P, Q, G⟩ x1a x1b x1c _ l1d _ ⟨by omega, by omega⟩ ⟨by omega, by omega⟩ ⟨by omega, by omega⟩ HL1d.out.here).mono ?_
  rintro e u3 ⟨⟨v3a, v3b, v3c, rfl, hi3, o3a, o3b, o3c⟩, hb⟩
  obtain ⟨⟨⟨⟨d1l, d1u⟩, ⟨d2l, d2u⟩⟩, ⟨⟨d3l, d3u⟩, ⟨d4l, d4u⟩⟩⟩, n3a, n3b, n3c⟩ := caR_bd ⟨P, Q, G⟩ sCast x1a x1b x1c l1d
  obtain ⟨D, hD⟩ : ∃ d, caR ⟨P, Q, G⟩ sCast x1a x1b x1c l1d = d := ⟨_, rfl⟩
  rw [hD] at d1l d1u d2l d2u d3l d3u d4l d4u hi3 o3a o3b o3c n3a n3b n3c
  rw [hD]
  clear hD hi3
  obtain ⟨q3q, hq3q⟩ : ∃ r, caB ⟨P, Q, G⟩ x1a x1b x1c l1d = r := ⟨_, rfl⟩
  have Hq3q := Lib.hid hq3q
  rw [hq3q]
  clear hq3q
  clear HL1d
  obtain ⟨l3a, hl3a⟩ : ∃ l, D.p.c = l := ⟨_, rfl⟩
  rw [hl3a] at o3a n3a
  clear hl3a
  obtain ⟨a3a, n3a_, c3a, rfl⟩ := o3a.ints.shape
  have HE3a := Lib.hid o3a.ints.len
  have HL3a : Hid (SinceT V2.heap.size u3.heap.size u3 (fun z => Ints z (.slice a3a n3a_ c3a) l3a)) := SinceT.of (Since.of_ownI o3a (Nat.le_refl _)) (Below.refl _ _) ⟨Nat.le_refl _, Nat.le_refl _⟩
  clear o3a
  obtain ⟨l3b, hl3b⟩ : ∃ l, D.p.h = l := ⟨_, rfl⟩
  rw [hl3b] at o3b n3b
  clear hl3b
  obtain ⟨a3b, n3b_, c3b, rfl⟩ := o3b.ints.shape
  have HE3b := Lib.hid o3b.ints.len
  have HL3b : Hid (SinceT V2.heap.size u3.heap.size u3 (fun z => Ints z (.slice a3b n3b_ c3b) l3b)) := SinceT.of (Since.of_ownI o3b (Nat.le_refl _)) (Below.refl _ _) ⟨Nat.le_refl _, Nat.le_refl _⟩
  clear o3b
  obtain ⟨l3c, hl3c⟩ : ∃ l, D.p.r = l := ⟨_, rfl⟩
  rw [hl3c] at o3c n3c
  clear hl3c
  obtain ⟨a3c, n3c_, c3c, rfl⟩ := o3c.ints.shape
  have HE3c := Lib.hid o3c.ints.len
  have HL3c : Hid (SinceT V2.heap.size u3.heap.size u3 (fun z => Ints z (.slice a3c n3c_ c3c) l3c)) := SinceT.of (Since.of_ownI o3c (Nat.le_refl _)) (Below.refl _ _) ⟨Nat.le_refl _, Nat.le_refl _⟩
  clear o3c
  have hsz3 := hb.size
  replace HX0 := Lib.hid (HX0.out.below hb)
  replace HX1 := Lib.hid (HX1.out.below hb)
  replace HZ1 := Lib.hid (HZ1.out.below hb)
  replace HW := Lib.hid (HW.out.trans (Within.of_below hb))
  replace HC := Lib.hid (HC.out.keep hb)
  clear hb
  cases q3q with
  | false =>
    have z_0_0 := HX0.out.cell (i := 0) rfl
    have z_0_1 := HX0.out.cell (i := 1) rfl
    have z_0_2 := HX0.out.cell (i := 2) rfl
    have z_1_0 := HX1.out.cell (i := 0) rfl
    have z_1_1 := HX1.out.cell (i := 1) rfl
    have z_1_2 := HX1.out.cell (i := 2) rfl
    have z_1_3 := HX1.out.cell (i := 3) rfl
    have z_1_4 := HX1.out.cell (i := 4) rfl
    have z_1_5 := HX1.out.cell (i := 5) rfl
    have z_1_6 := HX1.out.cell (i := 6) rfl
    have z_2_0 := HZ1.out.cell (i := 0) rfl
    have z_2_1 := HZ1.out.cell (i := 1) rfl
    have z_2_2 := HZ1.out.cell (i := 2) rfl
    have lt_HX0 := HX0.out.lt
    have lt_HX1 := HX1.out.lt
    have lt_HZ1 := HZ1.out.lt
    obtain ⟨V4, hV⟩ : ∃ V, V = u3.alloc (.cells #[.int .i64 D.c.a, .int .i64 D.c.b, .int .i64 D.v.a, .int .i64 D.v.b, .slice a3a n3a_ c3a, .slice a3b n3b_ c3b, .slice a3c n3c_ c3c] 104) := ⟨_, rfl⟩
    have hbV : Below u3.heap.size u3 V4 := by rw [hV]; (repeat (first | exact Below.refl _ _ | assumption | refine Below.drew ?_ | refine Below.alloc ?_ (by first | (simp; done) | (simp; omega)) _ | refine Below.setCell ?_ (by first | (simp; done) | (simp; omega)) _))
    have HZ2 : Hid (BoxN V4 u3.heap.size 104 [.int .i64 D.c.a, .int .i64 D.c.b, .int .i64 D.v.a, .int .i64 D.v.b, .slice a3a n3a_ c3a, .slice a3b n3b_ c3b, .slice a3c n3c_ c3c]) := by unfold Hid; rw [hV]; have h := (BoxN.new u3 [.int .i64 D.c.a, .int .i64 D.c.b, .int .i64 D.v.a, .int .i64 D.v.b, .slice a3a n3a_ c3a, .slice a3b n3b_ c3b, .slice a3c n3c_ c3c] 104); simpa using h
    have hgc : g < u3.heap.size := HC.out.lt
    go_wp2_with fail
    rw [← hV]
    have hsV4 : V4.heap.size = u3.heap.size + 1 := by rw [hV]; simp
    clear hV hgc
    replace HX0 := Lib.hid (HX0.out.below hbV)
    replace HX1 := Lib.hid (HX1.out.below hbV)
    replace HZ1 := Lib.hid (HZ1.out.below hbV)
    replace HL3a := Lib.hid (HL3a.out.below hbV)
    replace HL3b := Lib.hid (HL3b.out.below hbV)
    replace HL3c := Lib.hid (HL3c.out.below hbV)
    replace HW := Lib.hid (HW.out.trans (Within.of_below hbV))
    replace HC := Lib.hid (HC.out.keep hbV)
    clear hbV
    clear z_0_0 z_0_1 z_0_2 z_1_0 z_1_1 z_1_2 z_1_3 z_1_4 z_1_5 z_1_6 z_2_0 z_2_1 z_2_2
    clear lt_HX0
    clear lt_HX1
    clear lt_HZ1
    refine (spec_bent U g _ P Q G _ _ _ l3a l3b l3c _ HC.out (HW.out.belowOf HUC.out (Nat.le_of_eq HUS.out)) (by omega) HGR.out HL3a.out.here HL3b.out.here HL3c.out.here (by have := HE3a.out; omega) (by have := HE3b.out; omega) (by have := HE3c.out; omega)).mono ?_
    rintro e u5 ⟨⟨v5a, v5b, v5c, l5a, l5b, l5c, rfl, ⟨hs5a, hl5a⟩, ⟨hs5b, hl5b⟩, ⟨hs5c, hl5c⟩⟩, hc, hw⟩
    have HL5a := Lib.hid hs5a
    obtain ⟨a5a, n5a, c5a, rfl⟩ := hs5a.here.shape
    have hn5a : n5a ≤ 31 := by have h1 := hs5a.here.len; omega
    have HE5a := Lib.hid hs5a.here.len
    clear hs5a
    have HL5b := Lib.hid hs5b
    obtain ⟨a5b, n5b, c5b, rfl⟩ := hs5b.here.shape
    have hn5b : n5b ≤ 31 := by have h1 := hs5b.here.len; omega
    have HE5b := Lib.hid hs5b.here.len
    clear hs5b
    have HL5c := Lib.hid hs5c
    obtain ⟨a5c, n5c, c5c, rfl⟩ := hs5c.here.shape
    have hn5c : n5c ≤ 31 := by have h1 := hs5c.here.len; omega
    have HE5c := Lib.hid hs5c.here.len
    clear hs5c
    have hsz5 := hw.size
    replace HX0 := Lib.hid (HX0.out.kept hw (.inl (by omega)))
    replace HX1 := Lib.hid (HX1.out.kept hw (.inl (by omega)))
    replace HZ1 := Lib.hid (HZ1.out.kept hw (.inr (by omega)))
    replace HZ2 := Lib.hid (HZ2.out.kept hw (.inr (by omega)))
    replace HL3a := Lib.hid (HL3a.out.within hw (by omega))
    replace HL3b := Lib.hid (HL3b.out.within hw (by omega))
    replace HL3c := Lib.hid (HL3c.out.within hw (by omega))
    replace HW := Lib.hid (HW.out.trans hw)
    replace HC := Lib.hid hc
    clear hc hw
    have z_0_0 := HX0.out.cell (i := 0) rfl
    have z_0_1 := HX0.out.cell (i := 1) rfl
    have z_0_2 := HX0.out.cell (i := 2) rfl
    have z_1_0 := HX1.out.cell (i := 0) rfl
    have z_1_1 := HX1.out.cell (i := 1) rfl
    have z_1_2 := HX1.out.cell (i := 2) rfl
    have z_1_3 := HX1.out.cell (i := 3) rfl
    have z_1_4 := HX1.out.cell (i := 4) rfl
    have z_1_5 := HX1.out.cell (i := 5) rfl
    have z_1_6 := HX1.out.cell (i := 6) rfl
    have z_2_0 := HZ1.out.cell (i := 0) rfl
    have z_2_1 := HZ1.out.cell (i := 1) rfl
    have z_2_2 := HZ1.out.cell (i := 2) rfl
    have z_3_0 := HZ2.out.cell (i := 0) rfl
    have z_3_1 := HZ2.out.cell (i := 1) rfl
    have z_3_2 := HZ2.out.cell (i := 2) rfl
    have z_3_3 := HZ2.out.cell (i := 3) rfl
    have z_3_4 := HZ2.out.cell (i := 4) rfl
    have z_3_5 := HZ2.out.cell (i := 5) rfl
    have z_3_6 := HZ2.out.cell (i := 6) rfl
    have frm := fun j => HZ2.out.frozen j
    have ltm := HZ2.out.lt
    go_wp2_with fail
    obtain ⟨Y6, hY⟩ : ∃ Y, Y = ((u5.setCell ⟨u3.heap.size, 4, none⟩ (.slice a5a n5a c5a)).setCell ⟨u3.heap.size, 5, none⟩ (.slice a5b n5b c5b)).setCell ⟨u3.heap.size, 6, none⟩ (.slice a5c n5c c5c) := ⟨_, rfl⟩
    have hYl : Within (u3.heap.size) (u3.heap.size + 1) u5 Y6 := by rw [hY]; exact ((((Within.refl (u3.heap.size) (u3.heap.size + 1) u5).setCell (b := u3.heap.size) (by omega) (by omega) 4 (.slice a5a n5a c5a)).setCell (b := u3.heap.size) (by omega) (by omega) 5 (.slice a5b n5b c5b)).setCell (b := u3.heap.size) (by omega) (by omega) 6 (.slice a5c n5c c5c))
    have hszY6 := hYl.size
    have NHZ2 : Hid (BoxN Y6 u3.heap.size 104 [.int .i64 D.c.a, .int .i64 D.c.b, .int .i64 D.v.a, .int .i64 D.v.b, .slice a5a n5a c5a, .slice a5b n5b c5b, .slice a5c n5c c5c]) := by unfold Hid; rw [hY]; exact (((HZ2.out.set 4 (.slice a5a n5a c5a)).set 5 (.slice a5b n5b c5b)).set 6 (.slice a5c n5c c5c))
    have NC := Lib.hid (((HC.out.setNew (b := u3.heap.size) (by omega) 4 (.slice a5a n5a c5a)).setNew (b := u3.heap.size) (by omega) 5 (.slice a5b n5b c5b)).setNew (b := u3.heap.size) (by omega) 6 (.slice a5c n5c c5c))
    rw [← hY] at NC
    have NW := Lib.hid (((HW.out.setNew (b := u3.heap.size) (by omega) 4 (.slice a5a n5a c5a)).setNew (b := u3.heap.size) (by omega) 5 (.slice a5b n5b c5b)).setNew (b := u3.heap.size) (by omega) 6 (.slice a5c n5c c5c))
    rw [← hY] at NW
    replace HX0 := Lib.hid (HX0.out.kept hYl (by omega))
    replace HX1 := Lib.hid (HX1.out.kept hYl (by omega))
    replace HZ1 := Lib.hid (HZ1.out.kept hYl (by omega))
    replace HL3a := Lib.hid (HL3a.out.within hYl (by omega))
    replace HL3b := Lib.hid (HL3b.out.within hYl (by omega))
    replace HL3c := Lib.hid (HL3c.out.within hYl (by omega))
    replace HL5a := Lib.hid (HL5a.out.within hYl (by omega))
    replace HL5b := Lib.hid (HL5b.out.within hYl (by omega))
    replace HL5c := Lib.hid (HL5c.out.within hYl (by omega))
    rw [← hY]
    clear hY hYl frm ltm HZ2 HC HW
    have HZ2 := NHZ2
    have HC := NC
    have HW := NW
    clear NHZ2 NC NW
    clear z_0_0 z_0_1 z_0_2 z_1_0 z_1_1 z_1_2 z_1_3 z_1_4 z_1_5 z_1_6 z_2_0 z_2_1 z_2_2 z_3_0 z_3_1 z_3_2 z_3_3 z_3_4 z_3_5 z_3_6
    have z_0_0 := HX0.out.cell (i := 0) rfl
    have z_0_1 := HX0.out.cell (i := 1) rfl
    have z_0_2 := HX0.out.cell (i := 2) rfl
    have z_1_0 := HX1.out.cell (i := 0) rfl
    have z_1_1 := HX1.out.cell (i := 1) rfl
    have z_1_2 := HX1.out.cell (i := 2) rfl
    have z_1_3 := HX1.out.cell (i := 3) rfl
    have z_1_4 := HX1.out.cell (i := 4) rfl
    have z_1_5 := HX1.out.cell (i := 5) rfl
    have z_1_6 := HX1.out.cell (i := 6) rfl
    have z_2_0 := HZ1.out.cell (i := 0) rfl
    have z_2_1 := HZ1.out.cell (i := 1) rfl
    have z_2_2 := HZ1.out.cell (i := 2) rfl
    have z_3_0 := HZ2.out.cell (i := 0) rfl
    have z_3_1 := HZ2.out.cell (i := 1) rfl
    have z_3_2 := HZ2.out.cell (i := 2) rfl
    have z_3_3 := HZ2.out.cell (i := 3) rfl
    have z_3_4 := HZ2.out.cell (i := 4) rfl
    have z_3_5 := HZ2.out.cell (i := 5) rfl
    have z_3_6 := HZ2.out.cell (i := 6) rfl
    try (go_wp2_with fail)
    clear z_0_0
    clear z_0_1
    clear z_0_2
    clear z_1_0
    clear z_1_1
    clear z_1_2
    clear z_1_3
    clear z_1_4
    clear z_1_5
    clear z_1_6
    refine wp_region_noPanic ?_
    refine wp_region_V (fun w' => w'.cell? ⟨u1.heap.size, 0, none⟩ = some (.int .i64 P) ∧ w'.cell? ⟨u1.heap.size, 1, none⟩ = some (.int .i64 Q) ∧ w'.cell? ⟨u1.heap.size, 2, none⟩ = some (.int .i64 G) ∧ w'.cell? ⟨u3.heap.size, 0, none⟩ = some (.int .i64 D.c.a) ∧ w'.cell? ⟨u3.heap.size, 1, none⟩ = some (.int .i64 D.c.b) ∧ w'.cell? ⟨u3.heap.size, 2, none⟩ = some (.int .i64 D.v.a) ∧ w'.cell? ⟨u3.heap.size, 3, none⟩ = some (.int .i64 D.v.b) ∧ w'.cell? ⟨u3.heap.size, 4, none⟩ = some (.slice a5a n5a c5a) ∧ w'.cell? ⟨u3.heap.size, 5, none⟩ = some (.slice a5b n5b c5b) ∧ w'.cell? ⟨u3.heap.size, 6, none⟩ = some (.slice a5c n5c c5c)) 6 4 (.rd 0 (.rd 1 (.alt 2 (.alt 3 .done .nil) .nil))) [] (by kernel_rfl) (by kernel_rfl) rfl (fun _ _ _ _ _ h => h) ⟨box_at z_2_0 (Below.refl _ _).drew, box_at z_2_1 (Below.refl _ _).drew, box_at z_2_2 (Below.refl _ _).drew, box_at z_3_0 (Below.refl _ _).drew, box_at z_3_1 (Below.refl _ _).drew, box_at z_3_2 (Below.refl _ _).drew, box_at z_3_3 (Below.refl _ _).drew, box_at z_3_4 (Below.refl _ _).drew, box_at z_3_5 (Below.refl _ _).drew, box_at z_3_6 (Below.refl _ _).drew⟩ ?_
    simp only [pickV, pickN, List.getElem?_cons_zero, List.getElem?_cons_succ]
    repeat (refine' wpV_read _ (by kernel_rfl) (fun w' hS' => ?_) ?_; rotate_left; · ((try dsimp only at hS'); go_simp; (try with_reducible rfl)); (try simp only [Act.put, List.setIfInBounds_toArray, List.set_cons_zero, List.set_cons_succ]))
    have hdr : Below Y6.heap.size Y6 Y6.drew := (Below.refl _ _).drew
    have hszd := hdr.size
    replace HX0 := Lib.hid (HX0.out.below hdr)
    replace HX1 := Lib.hid (HX1.out.below hdr)
    replace HZ1 := Lib.hid (HZ1.out.below hdr)
    replace HZ2 := Lib.hid (HZ2.out.below hdr)
    replace HL3a := Lib.hid (HL3a.out.below hdr)
    replace HL3b := Lib.hid (HL3b.out.below hdr)
    replace HL3c := Lib.hid (HL3c.out.below hdr)
    replace HL5a := Lib.hid (HL5a.out.below hdr)
    replace HL5b := Lib.hid (HL5b.out.below hdr)
    replace HL5c := Lib.hid (HL5c.out.below hdr)
    replace HW := Lib.hid (HW.out.trans (Within.of_below hdr))
    replace HC := Lib.hid (HC.out.keep hdr)
    clear hdr
    refine wpV_do (by kernel_rfl) (fun K hK => ?_)
    -- 2: store
    have r0 := HX0.out.cell (i := 0) rfl
    have r1 := HX0.out.cell (i := 1) rfl
    have r2 := HX0.out.cell (i := 2) rfl
    have fr := fun j => HX0.out.frozen j
    have q0 : Y6.cell? ⟨w.heap.size, 0, none⟩ = some (.int .i64 0) := r0
    have q1 : Y6.cell? ⟨w.heap.size, 1, none⟩ = some (.int .i64 0) := r1
    have q2 : Y6.cell? ⟨w.heap.size, 2, none⟩ = some (.int .i64 0) := r2
    have frd : ∀ j, Y6.frozen? ⟨w.heap.size, j, none⟩ = false := fr
    obtain ⟨Y1, hY⟩ : ∃ Y, Y = (((Y6.setCell ⟨w.heap.size, 0, none⟩ (.int .i64 P)).setCell ⟨w.heap.size, 1, none⟩ (.int .i64 Q)).setCell ⟨w.heap.size, 2, none⟩ (.int .i64 G)).drew := ⟨_, rfl⟩
    have hYG := hY
    replace hY : Y1 = ((Y6.drew.setCell ⟨w.heap.size, 0, none⟩ (.int .i64 P)).setCell ⟨w.heap.size, 1, none⟩ (.int .i64 Q)).setCell ⟨w.heap.size, 2, none⟩ (.int .i64 G) := by rw [hY]; first | rfl | simp [go_sem]
    have hYl : Within (w.heap.size) (w.heap.size + 1) Y6.drew Y1 := by rw [hY]; exact ((((Within.refl (w.heap.size) (w.heap.size + 1) Y6.drew).setCell (b := w.heap.size) (by omega) (by omega) 0 (.int .i64 P)).setCell (b := w.heap.size) (by omega) (by omega) 1 (.int .i64 Q)).setCell (b := w.heap.size) (by omega) (by omega) 2 (.int .i64 G))
    have HYW : Hid (Within w.heap.size (w.heap.size + 2) Y6.drew Y1) := hYl.mono (by omega) (by omega)
    have HYB : Hid (Below w.heap.size w Y1) := hYl.belowU (HW.out.belowOf HBW.out (by omega)) (by omega)
    have HCS : Hid (∀ w', Within w.heap.size (w.heap.size + 2) Y6.drew w' → w'.cell? ⟨u1.heap.size, 0, none⟩ = some (.int .i64 P) ∧ w'.cell? ⟨u1.heap.size, 1, none⟩ = some (.int .i64 Q) ∧ w'.cell? ⟨u1.heap.size, 2, none⟩ = some (.int .i64 G) ∧ w'.cell? ⟨u3.heap.size, 0, none⟩ = some (.int .i64 D.c.a) ∧ w'.cell? ⟨u3.heap.size, 1, none⟩ = some (.int .i64 D.c.b) ∧ w'.cell? ⟨u3.heap.size, 2, none⟩ = some (.int .i64 D.v.a) ∧ w'.cell? ⟨u3.heap.size, 3, none⟩ = some (.int .i64 D.v.b) ∧ w'.cell? ⟨u3.heap.size, 4, none⟩ = some (.slice a5a n5a c5a) ∧ w'.cell? ⟨u3.heap.size, 5, none⟩ = some (.slice a5b n5b c5b) ∧ w'.cell? ⟨u3.heap.size, 6, none⟩ = some (.slice a5c n5c c5c)) := fun w' h => ⟨within_at h z_2_0 (by omega), within_at h z_2_1 (by omega), within_at h z_2_2 (by omega), within_at h z_3_0 (by omega), within_at h z_3_1 (by omega), within_at h z_3_2 (by omega), within_at h z_3_3 (by omega), within_at h z_3_4 (by omega), within_at h z_3_5 (by omega), within_at h z_3_6 (by omega)⟩
    go_simp
    refine hK.out _ _ ?_ (fun _ => ?_)
    · rw [← hYG]; exact HCS.out _ HYW.out
    rw [← hYG]
    clear hK K fr r0 r1 r2
    replace HX0 : Hid (BoxN Y1 w.heap.size 39 [.int .i64 P, .int .i64 Q, .int .i64 G]) := by unfold Hid; rw [hY]; exact (((HX0.out.set 0 (.int .i64 P)).set 1 (.int .i64 Q)).set 2 (.int .i64 G))
    replace HX1 := Lib.hid (HX1.out.kept hYl (by omega))
    clear hYG frd q0 q1 q2
    clear hY hYl
    (try simp only [Act.put, List.setIfInBounds_toArray, List.set_cons_zero, List.set_cons_succ])
    clear z_2_0 z_2_1 z_2_2 z_3_0 z_3_1 z_3_2 z_3_3 z_3_4 z_3_5 z_3_6
    obtain ⟨z_2_0, z_2_1, z_2_2, z_3_0, z_3_1, z_3_2, z_3_3, z_3_4, z_3_5, z_3_6⟩ := HCS.out _ HYW.out
    refine wpV_do (by kernel_rfl) (fun K hK => ?_)
    -- 3: store
    have r0 := HX1.out.cell (i := 0) rfl
    have r1 := HX1.out.cell (i := 1) rfl
    have r2 := HX1.out.cell (i := 2) rfl
    have r3 := HX1.out.cell (i := 3) rfl
    have r4 := HX1.out.cell (i := 4) rfl
    have r5 := HX1.out.cell (i := 5) rfl
    have r6 := HX1.out.cell (i := 6) rfl
    have fr := fun j => HX1.out.frozen j
    obtain ⟨Y2, hY⟩ : ∃ Y, Y = ((((((Y1.setCell ⟨w.heap.size + 1, 0, none⟩ (.int .i64 D.c.a)).setCell ⟨w.heap.size + 1, 1, none⟩ (.int .i64 D.c.b)).setCell ⟨w.heap.size + 1, 2, none⟩ (.int .i64 D.v.a)).setCell ⟨w.heap.size + 1, 3, none⟩ (.int .i64 D.v.b)).setCell ⟨w.heap.size + 1, 4, none⟩ (.slice a5a n5a c5a)).setCell ⟨w.heap.size + 1, 5, none⟩ (.slice a5b n5b c5b)).setCell ⟨w.heap.size + 1, 6, none⟩ (.slice a5c n5c c5c) := ⟨_, rfl⟩
    have hYl : Within (w.heap.size + 1) (w.heap.size + 1 + 1) Y1 Y2 := by rw [hY]; exact ((((((((Within.refl (w.heap.size + 1) (w.heap.size + 1 + 1) Y1).setCell (b := w.heap.size + 1) (by omega) (by omega) 0 (.int .i64 D.c.a)).setCell (b := w.heap.size + 1) (by omega) (by omega) 1 (.int .i64 D.c.b)).setCell (b := w.heap.size + 1) (by omega) (by omega) 2 (.int .i64 D.v.a)).setCell (b := w.heap.size + 1) (by omega) (by omega) 3 (.int .i64 D.v.b)).setCell (b := w.heap.size + 1) (by omega) (by omega) 4 (.slice a5a n5a c5a)).setCell (b := w.heap.size + 1) (by omega) (by omega) 5 (.slice a5b n5b c5b)).setCell (b := w.heap.size + 1) (by omega) (by omega) 6 (.slice a5c n5c c5c))
    replace HYW := Lib.hid (HYW.out.trans (hYl.mono (by omega) (by omega)))
    replace HYB := Lib.hid (hYl.belowU HYB.out (by omega))
    go_simp
    refine hK.out _ _ ?_ (fun _ => ?_)
    · rw [← hY]; exact HCS.out _ HYW.out
    rw [← hY]
    clear hK K fr r0 r1 r2 r3 r4 r5 r6
    replace HX1 : Hid (BoxN Y2 (w.heap.size + 1) 104 [.int .i64 D.c.a, .int .i64 D.c.b, .int .i64 D.v.a, .int .i64 D.v.b, .slice a5a n5a c5a, .slice a5b n5b c5b, .slice a5c n5c c5c]) := by unfold Hid; rw [hY]; exact (((((((HX1.out.set 0 (.int .i64 D.c.a)).set 1 (.int .i64 D.c.b)).set 2 (.int .i64 D.v.a)).set 3 (.int .i64 D.v.b)).set 4 (.slice a5a n5a c5a)).set 5 (.slice a5b n5b c5b)).set 6 (.slice a5c n5c c5c))
    replace HX0 := Lib.hid (HX0.out.kept hYl (by omega))
    clear hY hYl
    (try simp only [Act.put, List.setIfInBounds_toArray, List.set_cons_zero, List.set_cons_succ])
    clear z_2_0 z_2_1 z_2_2 z_3_0 z_3_1 z_3_2 z_3_3 z_3_4 z_3_5 z_3_6
    obtain ⟨z_2_0, z_2_1, z_2_2, z_3_0, z_3_1, z_3_2, z_3_3, z_3_4, z_3_5, z_3_6⟩ := HCS.out _ HYW.out
    refine wpV_done ?_
    go_wp2_with fail
    refine NoPanic.normal ?_
    clear z_2_0 z_2_1 z_2_2 z_3_0 z_3_1 z_3_2 z_3_3 z_3_4 z_3_5 z_3_6
    have t_HX0_0 := HX0.out.cell (i := 0) rfl
    have t_HX0_1 := HX0.out.cell (i := 1) rfl
    have t_HX0_2 := HX0.out.cell (i := 2) rfl
    have t_HX1_0 := HX1.out.cell (i := 0) rfl
    have t_HX1_1 := HX1.out.cell (i := 1) rfl
    have t_HX1_2 := HX1.out.cell (i := 2) rfl
    have t_HX1_3 := HX1.out.cell (i := 3) rfl
    have t_HX1_4 := HX1.out.cell (i := 4) rfl
    have t_HX1_5 := HX1.out.cell (i := 5) rfl
    have t_HX1_6 := HX1.out.cell (i := 6) rfl
    try (go_wp2_with fail)
    refine bodyPost_ret (v := .tuple #[.agg #[.int .i64 P, .int .i64 Q, .int .i64 G], .agg #[.int .i64 D.c.a, .int .i64 D.c.b, .int .i64 D.v.a, .int .i64 D.v.b, .slice a5a n5a c5a, .slice a5b n5b c5b, .slice a5c n5c c5c]]) (by simp [results, Try.results72, go_sem, t_HX0_0, t_HX0_1, t_HX0_2, t_HX1_0, t_HX1_1, t_HX1_2, t_HX1_3, t_HX1_4, t_HX1_5, t_HX1_6]) rfl ⟨⟨_, _, _, _, _, _, _, _, _, _, _, _, _, rfl, HGR.out, ⟨⟨by omega, by omega⟩, ⟨by omega, by omega⟩⟩, ⟨⟨by omega, by omega⟩, ⟨by omega, by omega⟩⟩, ⟨(HL5a.out.within HYW.out (by omega)).here, by have := HE5a.out; omega⟩, ⟨(HL5b.out.within HYW.out (by omega)).here, by have := HE5b.out; omega⟩, ⟨(HL5c.out.within HYW.out (by omega)).here, by have := HE5c.out; omega⟩⟩, HYB.out⟩
  | true =>
    have z_0_0 := HX0.out.cell (i := 0) rfl
    have z_0_1 := HX0.out.cell (i := 1) rfl
    have z_0_2 := HX0.out.cell (i := 2) rfl
    have z_1_0 := HX1.out.cell (i := 0) rfl
    have z_1_1 := HX1.out.cell (i := 1) rfl
    have z_1_2 := HX1.out.cell (i := 2) rfl
    have z_1_3 := HX1.out.cell (i := 3) rfl
    have z_1_4 := HX1.out.cell (i := 4) rfl
    have z_1_5 := HX1.out.cell (i := 5) rfl
    have z_1_6 := HX1.out.cell (i := 6) rfl
    have z_2_0 := HZ1.out.cell (i := 0) rfl
    have z_2_1 := HZ1.out.cell (i := 1) rfl
    have z_2_2 := HZ1.out.cell (i := 2) rfl
    have lt_HX0 := HX0.out.lt
    have lt_HX1 := HX1.out.lt
    have lt_HZ1 := HZ1.out.lt
    obtain ⟨V4, hV⟩ : ∃ V, V = u3.alloc (.cells #[.int .i64 D.c.a, .int .i64 D.c.b, .int .i64 D.v.a, .int .i64 D.v.b, .slice a3a n3a_ c3a, .slice a3b n3b_ c3b, .slice a3c n3c_ c3c] 104) := ⟨_, rfl⟩
    have hbV : Below u3.heap.size u3 V4 := by rw [hV]; (repeat (first | exact Below.refl _ _ | assumption | refine Below.drew ?_ | refine Below.alloc ?_ (by first | (simp; done) | (simp; omega)) _ | refine Below.setCell ?_ (by first | (simp; done) | (simp; omega)) _))
    have HZ2 : Hid (BoxN V4 u3.heap.size 104 [.int .i64 D.c.a, .int .i64 D.c.b, .int .i64 D.v.a, .int .i64 D.v.b, .slice a3a n3a_ c3a, .slice a3b n3b_ c3b, .slice a3c n3c_ c3c]) := by unfold Hid; rw [hV]; have h := (BoxN.new u3 [.int .i64 D.c.a, .int .i64 D.c.b, .int .i64 D.v.a, .int .i64 D.v.b, .slice a3a n3a_ c3a, .slice a3b n3b_ c3b, .slice a3c n3c_ c3c] 104); simpa using h
    have hgc : g < u3.heap.size := HC.out.lt
    go_wp2_with fail
    rw [← hV]
    have hsV4 : V4.heap.size = u3.heap.size + 1 := by rw [hV]; simp
    clear hV hgc
    replace HX0 := Lib.hid (HX0.out.below hbV)
    replace HX1 := Lib.hid (HX1.out.below hbV)
    replace HZ1 := Lib.hid (HZ1.out.below hbV)
    replace HL3a := Lib.hid (HL3a.out.below hbV)
    replace HL3b := Lib.hid (HL3b.out.below hbV)
    replace HL3c := Lib.hid (HL3c.out.below hbV)
    replace HW := Lib.hid (HW.out.trans (Within.of_below hbV))
    replace HC := Lib.hid (HC.out.keep hbV)
    clear hbV
    clear z_0_0 z_0_1 z_0_2 z_1_0 z_1_1 z_1_2 z_1_3 z_1_4 z_1_5 z_1_6 z_2_0 z_2_1 z_2_2
    clear lt_HX0
    clear lt_HX1
    clear lt_HZ1
    refine (spec_one U g _ 4 _ HC.out (HW.out.belowOf HUC.out (Nat.le_of_eq HUS.out)) (by omega) ).mono ?_
    rintro e u5 ⟨⟨b5, rfl⟩, hc, hw⟩
    have hsz5 := hw.size
    replace HX0 := Lib.hid (HX0.out.kept hw (.inl (by omega)))
    replace HX1 := Lib.hid (HX1.out.kept hw (.inl (by omega)))
    replace HZ1 := Lib.hid (HZ1.out.kept hw (.inr (by omega)))
    replace HZ2 := Lib.hid (HZ2.out.kept hw (.inr (by omega)))
    replace HL3a := Lib.hid (HL3a.out.within hw (by omega))
    replace HL3b := Lib.hid (HL3b.out.within hw (by omega))
    replace HL3c := Lib.hid (HL3c.out.within hw (by omega))
    replace HW := Lib.hid (HW.out.trans hw)
    replace HC := Lib.hid hc
    clear hc hw
    cases b5 with
    | false =>
      have z_0_0 := HX0.out.cell (i := 0) rfl
      have z_0_1 := HX0.out.cell (i := 1) rfl
      have z_0_2 := HX0.out.cell (i := 2) rfl
      have z_1_0 := HX1.out.cell (i := 0) rfl
      have z_1_1 := HX1.out.cell (i := 1) rfl
      have z_1_2 := HX1.out.cell (i := 2) rfl
      have z_1_3 := HX1.out.cell (i := 3) rfl
      have z_1_4 := HX1.out.cell (i := 4) rfl
      have z_1_5 := HX1.out.cell (i := 5) rfl
      have z_1_6 := HX1.out.cell (i := 6) rfl
      have z_2_0 := HZ1.out.cell (i := 0) rfl
      have z_2_1 := HZ1.out.cell (i := 1) rfl
      have z_2_2 := HZ1.out.cell (i := 2) rfl
      have z_3_0 := HZ2.out.cell (i := 0) rfl
      have z_3_1 := HZ2.out.cell (i := 1) rfl
      have z_3_2 := HZ2.out.cell (i := 2) rfl
      have z_3_3 := HZ2.out.cell (i := 3) rfl
      have z_3_4 := HZ2.out.cell (i := 4) rfl
      have z_3_5 := HZ2.out.cell (i := 5) rfl
      have z_3_6 := HZ2.out.cell (i := 6) rfl
      try (go_wp2_with fail)
      clear z_0_0 z_0_1 z_0_2 z_1_0 z_1_1 z_1_2 z_1_3 z_1_4 z_1_5 z_1_6 z_2_0 z_2_1 z_2_2 z_3_0 z_3_1 z_3_2 z_3_3 z_3_4 z_3_5 z_3_6
      refine (spec_bent U g _ P Q G _ _ _ l3a l3b l3c _ HC.out (HW.out.belowOf HUC.out (Nat.le_of_eq HUS.out)) (by omega) HGR.out HL3a.out.here HL3b.out.here HL3c.out.here (by have := HE3a.out; omega) (by have := HE3b.out; omega) (by have := HE3c.out; omega)).mono ?_
      rintro e u6 ⟨⟨v6a, v6b, v6c, l6a, l6b, l6c, rfl, ⟨hs6a, hl6a⟩, ⟨hs6b, hl6b⟩, ⟨hs6c, hl6c⟩⟩, hc, hw⟩
      have HL6a := Lib.hid hs6a
      obtain ⟨a6a, n6a, c6a, rfl⟩ := hs6a.here.shape
      have hn6a : n6a ≤ 31 := by have h1 := hs6a.here.len; omega
      have HE6a := Lib.hid hs6a.here.len
      clear hs6a
      have HL6b := Lib.hid hs6b
      obtain ⟨a6b, n6b, c6b, rfl⟩ := hs6b.here.shape
      have hn6b : n6b ≤ 31 := by have h1 := hs6b.here.len; omega
      have HE6b := Lib.hid hs6b.here.len
      clear hs6b
      have HL6c := Lib.hid hs6c
      obtain ⟨a6c, n6c, c6c, rfl⟩ := hs6c.here.shape
      have hn6c : n6c ≤ 31 := by have h1 := hs6c.here.len; omega
      have HE6c := Lib.hid hs6c.here.len
      clear hs6c
      have hsz6 := hw.size
      replace HX0 := Lib.hid (HX0.out.kept hw (.inl (by omega)))
      replace HX1 := Lib.hid (HX1.out.kept hw (.inl (by omega)))
      replace HZ1 := Lib.hid (HZ1.out.kept hw (.inr (by omega)))
      replace HZ2 := Lib.hid (HZ2.out.kept hw (.inr (by omega)))
      replace HL3a := Lib.hid (HL3a.out.within hw (by omega))
      replace HL3b := Lib.hid (HL3b.out.within hw (by omega))
      replace HL3c := Lib.hid (HL3c.out.within hw (by omega))
      replace HW := Lib.hid (HW.out.trans hw)
      replace HC := Lib.hid hc
      clear hc hw
      have z_0_0 := HX0.out.cell (i := 0) rfl
      have z_0_1 := HX0.out.cell (i := 1) rfl
      have z_0_2 := HX0.out.cell (i := 2) rfl
      have z_1_0 := HX1.out.cell (i := 0) rfl
      have z_1_1 := HX1.out.cell (i := 1) rfl
      have z_1_2 := HX1.out.cell (i := 2) rfl
      have z_1_3 := HX1.out.cell (i := 3) rfl
      have z_1_4 := HX1.out.cell (i := 4) rfl
      have z_1_5 := HX1.out.cell (i := 5) rfl
      have z_1_6 := HX1.out.cell (i := 6) rfl
      have z_2_0 := HZ1.out.cell (i := 0) rfl
      have z_2_1 := HZ1.out.cell (i := 1) rfl
      have z_2_2 := HZ1.out.cell (i := 2) rfl
      have z_3_0 := HZ2.out.cell (i := 0) rfl
      have z_3_1 := HZ2.out.cell (i := 1) rfl
      have z_3_2 := HZ2.out.cell (i := 2) rfl
      have z_3_3 := HZ2.out.cell (i := 3) rfl
      have z_3_4 := HZ2.out.cell (i := 4) rfl
      have z_3_5 := HZ2.out.cell (i := 5) rfl
      have z_3_6 := HZ2.out.cell (i := 6) rfl
      have frm := fun j => HZ2.out.frozen j
      have ltm := HZ2.out.lt
      go_wp2_with fail
      obtain ⟨Y7, hY⟩ : ∃ Y, Y = ((u6.setCell ⟨u3.heap.size, 4, none⟩ (.slice a6a n6a c6a)).setCell ⟨u3.heap.size, 5, none⟩ (.slice a6b n6b c6b)).setCell ⟨u3.heap.size, 6, none⟩ (.slice a6c n6c c6c) := ⟨_, rfl⟩
      have hYl : Within (u3.heap.size) (u3.heap.size + 1) u6 Y7 := by rw [hY]; exact ((((Within.refl (u3.heap.size) (u3.heap.size + 1) u6).setCell (b := u3.heap.size) (by omega) (by omega) 4 (.slice a6a n6a c6a)).setCell (b := u3.heap.size) (by omega) (by omega) 5 (.slice a6b n6b c6b)).setCell (b := u3.heap.size) (by omega) (by omega) 6 (.slice a6c n6c c6c))
      have hszY7 := hYl.size
      have NHZ2 : Hid (BoxN Y7 u3.heap.size 104 [.int .i64 D.c.a, .int .i64 D.c.b, .int .i64 D.v.a, .int .i64 D.v.b, .slice a6a n6a c6a, .slice a6b n6b c6b, .slice a6c n6c c6c]) := by unfold Hid; rw [hY]; exact (((HZ2.out.set 4 (.slice a6a n6a c6a)).set 5 (.slice a6b n6b c6b)).set 6 (.slice a6c n6c c6c))
      have NC := Lib.hid (((HC.out.setNew (b := u3.heap.size) (by omega) 4 (.slice a6a n6a c6a)).setNew (b := u3.heap.size) (by omega) 5 (.slice a6b n6b c6b)).setNew (b := u3.heap.size) (by omega) 6 (.slice a6c n6c c6c))
      rw [← hY] at NC
      have NW := Lib.hid (((HW.out.setNew (b := u3.heap.size) (by omega) 4 (.slice a6a n6a c6a)).setNew (b := u3.heap.size) (by omega) 5 (.slice a6b n6b c6b)).setNew (b := u3.heap.size) (by omega) 6 (.slice a6c n6c c6c))
      rw [← hY] at NW
      replace HX0 := Lib.hid (HX0.out.kept hYl (by omega))
      replace HX1 := Lib.hid (HX1.out.kept hYl (by omega))
      replace HZ1 := Lib.hid (HZ1.out.kept hYl (by omega))
      replace HL3a := Lib.hid (HL3a.out.within hYl (by omega))
      replace HL3b := Lib.hid (HL3b.out.within hYl (by omega))
      replace HL3c := Lib.hid (HL3c.out.within hYl (by omega))
      replace HL6a := Lib.hid (HL6a.out.within hYl (by omega))
      replace HL6b := Lib.hid (HL6b.out.within hYl (by omega))
      replace HL6c := Lib.hid (HL6c.out.within hYl (by omega))
      rw [← hY]
      clear hY hYl frm ltm HZ2 HC HW
      have HZ2 := NHZ2
      have HC := NC
      have HW := NW
      clear NHZ2 NC NW
      clear z_0_0 z_0_1 z_0_2 z_1_0 z_1_1 z_1_2 z_1_3 z_1_4 z_1_5 z_1_6 z_2_0 z_2_1 z_2_2 z_3_0 z_3_1 z_3_2 z_3_3 z_3_4 z_3_5 z_3_6
      have z_0_0 := HX0.out.cell (i := 0) rfl
      have z_0_1 := HX0.out.cell (i := 1) rfl
      have z_0_2 := HX0.out.cell (i := 2) rfl
      have z_1_0 := HX1.out.cell (i := 0) rfl
      have z_1_1 := HX1.out.cell (i := 1) rfl
      have z_1_2 := HX1.out.cell (i := 2) rfl
      have z_1_3 := HX1.out.cell (i := 3) rfl
      have z_1_4 := HX1.out.cell (i := 4) rfl
      have z_1_5 := HX1.out.cell (i := 5) rfl
      have z_1_6 := HX1.out.cell (i := 6) rfl
      have z_2_0 := HZ1.out.cell (i := 0) rfl
      have z_2_1 := HZ1.out.cell (i := 1) rfl
      have z_2_2 := HZ1.out.cell (i := 2) rfl
      have z_3_0 := HZ2.out.cell (i := 0) rfl
      have z_3_1 := HZ2.out.cell (i := 1) rfl
      have z_3_2 := HZ2.out.cell (i := 2) rfl
      have z_3_3 := HZ2.out.cell (i := 3) rfl
      have z_3_4 := HZ2.out.cell (i := 4) rfl
      have z_3_5 := HZ2.out.cell (i := 5) rfl
      have z_3_6 := HZ2.out.cell (i := 6) rfl
      try (go_wp2_with fail)
      clear z_0_0
      clear z_0_1
      clear z_0_2
      clear z_1_0
      clear z_1_1
      clear z_1_2
      clear z_1_3
      clear z_1_4
      clear z_1_5
      clear z_1_6
      refine wp_region_noPanic ?_
      refine wp_region_V (fun w' => w'.cell? ⟨u1.heap.size, 0, none⟩ = some (.int .i64 P) ∧ w'.cell? ⟨u1.heap.size, 1, none⟩ = some (.int .i64 Q) ∧ w'.cell? ⟨u1.heap.size, 2, none⟩ = some (.int .i64 G) ∧ w'.cell? ⟨u3.heap.size, 0, none⟩ = some (.int .i64 D.c.a) ∧ w'.cell? ⟨u3.heap.size, 1, none⟩ = some (.int .i64 D.c.b) ∧ w'.cell? ⟨u3.heap.size, 2, none⟩ = some (.int .i64 D.v.a) ∧ w'.cell? ⟨u3.heap.size, 3, none⟩ = some (.int .i64 D.v.b) ∧ w'.cell? ⟨u3.heap.size, 4, none⟩ = some (.slice a6a n6a c6a) ∧ w'.cell? ⟨u3.heap.size, 5, none⟩ = some (.slice a6b n6b c6b) ∧ w'.cell? ⟨u3.heap.size, 6, none⟩ = some (.slice a6c n6c c6c)) 6 4 (.rd 0 (.rd 1 (.alt 2 (.alt 3 .done .nil) .nil))) [] (by kernel_rfl) (by kernel_rfl) rfl (fun _ _ _ _ _ h => h) ⟨box_at z_2_0 (Below.refl _ _).drew, box_at z_2_1 (Below.refl _ _).drew, box_at z_2_2 (Below.refl _ _).drew, box_at z_3_0 (Below.refl _ _).drew, box_at z_3_1 (Below.refl _ _).drew, box_at z_3_2 (Below.refl _ _).drew, box_at z_3_3 (Below.refl _ _).drew, box_at z_3_4 (Below.refl _ _).drew, box_at z_3_5 (Below.refl _ _).drew, box_at z_3_6 (Below.refl _ _).drew⟩ ?_
      simp only [pickV, pickN, List.getElem?_cons_zero, List.getElem?_cons_succ]
      repeat (refine' wpV_read _ (by kernel_rfl) (fun w' hS' => ?_) ?_; rotate_left; · ((try dsimp only at hS'); go_simp; (try with_reducible rfl)); (try simp only [Act.put, List.setIfInBounds_toArray, List.set_cons_zero, List.set_cons_succ]))
      have hdr : Below Y7.heap.size Y7 Y7.drew := (Below.refl _ _).drew
      have hszd := hdr.size
      replace HX0 := Lib.hid (HX0.out.below hdr)
      replace HX1 := Lib.hid (HX1.out.below hdr)
      replace HZ1 := Lib.hid (HZ1.out.below hdr)
      replace HZ2 := Lib.hid (HZ2.out.below hdr)
      replace HL3a := Lib.hid (HL3a.out.below hdr)
      replace HL3b := Lib.hid (HL3b.out.below hdr)
      replace HL3c := Lib.hid (HL3c.out.below hdr)
      replace HL6a := Lib.hid (HL6a.out.below hdr)
      replace HL6b := Lib.hid (HL6b.out.below hdr)
      replace HL6c := Lib.hid (HL6c.out.below hdr)
      replace HW := Lib.hid (HW.out.trans (Within.of_below hdr))
      replace HC := Lib.hid (HC.out.keep hdr)
      clear hdr
      refine wpV_do (by kernel_rfl) (fun K hK => ?_)
      -- 2: store
      have r0 := HX0.out.cell (i := 0) rfl
      have r1 := HX0.out.cell (i := 1) rfl
      have r2 := HX0.out.cell (i := 2) rfl
      have fr := fun j => HX0.out.frozen j
      have q0 : Y7.cell? ⟨w.heap.size, 0, none⟩ = some (.int .i64 0) := r0
      have q1 : Y7.cell? ⟨w.heap.size, 1, none⟩ = some (.int .i64 0) := r1
      have q2 : Y7.cell? ⟨w.heap.size, 2, none⟩ = some (.int .i64 0) := r2
      have frd : ∀ j, Y7.frozen? ⟨w.heap.size, j, none⟩ = false := fr
      obtain ⟨Y1, hY⟩ : ∃ Y, Y = (((Y7.setCell ⟨w.heap.size, 0, none⟩ (.int .i64 P)).setCell ⟨w.heap.size, 1, none⟩ (.int .i64 Q)).setCell ⟨w.heap.size, 2, none⟩ (.int .i64 G)).drew := ⟨_, rfl⟩
      have hYG := hY
      replace hY : Y1 = ((Y7.drew.setCell ⟨w.heap.size, 0, none⟩ (.int .i64 P)).setCell ⟨w.heap.size, 1, none⟩ (.int .i64 Q)).setCell ⟨w.heap.size, 2, none⟩ (.int .i64 G) := by rw [hY]; first | rfl | simp [go_sem]
      have hYl : Within (w.heap.size) (w.heap.size + 1) Y7.drew Y1 := by rw [hY]; exact ((((Within.refl (w.heap.size) (w.heap.size + 1) Y7.drew).setCell (b := w.heap.size) (by omega) (by omega) 0 (.int .i64 P)).setCell (b := w.heap.size) (by omega) (by omega) 1 (.int .i64 Q)).setCell (b := w.heap.size) (by omega) (by omega) 2 (.int .i64 G))
      have HYW : Hid (Within w.heap.size (w.heap.size + 2) Y7.drew Y1) := hYl.mono (by omega) (by omega)
      have HYB : Hid (Below w.heap.size w Y1) := hYl.belowU (HW.out.belowOf HBW.out (by omega)) (by omega)
      have HCS : Hid (∀ w', Within w.heap.size (w.heap.size + 2) Y7.drew w' → w'.cell? ⟨u1.heap.size, 0, none⟩ = some (.int .i64 P) ∧ w'.cell? ⟨u1.heap.size, 1, none⟩ = some (.int .i64 Q) ∧ w'.cell? ⟨u1.heap.size, 2, none⟩ = some (.int .i64 G) ∧ w'.cell? ⟨u3.heap.size, 0, none⟩ = some (.int .i64 D.c.a) ∧ w'.cell? ⟨u3.heap.size, 1, none⟩ = some (.int .i64 D.c.b) ∧ w'.cell? ⟨u3.heap.size, 2, none⟩ = some (.int .i64 D.v.a) ∧ w'.cell? ⟨u3.heap.size, 3, none⟩ = some (.int .i64 D.v.b) ∧ w'.cell? ⟨u3.heap.size, 4, none⟩ = some (.slice a6a n6a c6a) ∧ w'.cell? ⟨u3.heap.size, 5, none⟩ = some (.slice a6b n6b c6b) ∧ w'.cell? ⟨u3.heap.size, 6, none⟩ = some (.slice a6c n6c c6c)) := fun w' h => ⟨within_at h z_2_0 (by omega), within_at h z_2_1 (by omega), within_at h z_2_2 (by omega), within_at h z_3_0 (by omega), within_at h z_3_1 (by omega), within_at h z_3_2 (by omega), within_at h z_3_3 (by omega), within_at h z_3_4 (by omega), within_at h z_3_5 (by omega), within_at h z_3_6 (by omega)⟩
      go_simp
      refine hK.out _ _ ?_ (fun _ => ?_)
      · rw [← hYG]; exact HCS.out _ HYW.out
      rw [← hYG]
      clear hK K fr r0 r1 r2
      replace HX0 : Hid (BoxN Y1 w.heap.size 39 [.int .i64 P, .int .i64 Q, .int .i64 G]) := by unfold Hid; rw [hY]; exact (((HX0.out.set 0 (.int .i64 P)).set 1 (.int .i64 Q)).set 2 (.int .i64 G))
      replace HX1 := Lib.hid (HX1.out.kept hYl (by omega))
      clear hYG frd q0 q1 q2
      clear hY hYl
      (try simp only [Act.put, List.setIfInBounds_toArray, List.set_cons_zero, List.set_cons_succ])
      clear z_2_0 z_2_1 z_2_2 z_3_0 z_3_1 z_3_2 z_3_3 z_3_4 z_3_5 z_3_6
      obtain ⟨z_2_0, z_2_1, z_2_2, z_3_0, z_3_1, z_3_2, z_3_3, z_3_4, z_3_5, z_3_6⟩ := HCS.out _ HYW.out
      refine wpV_do (by kernel_rfl) (fun K hK => ?_)
      -- 3: store
      have r0 := HX1.out.cell (i := 0) rfl
      have r1 := HX1.out.cell (i := 1) rfl
      have r2 := HX1.out.cell (i := 2) rfl
      have r3 := HX1.out.cell (i := 3) rfl
      have r4 := HX1.out.cell (i := 4) rfl
      have r5 := HX1.out.cell (i := 5) rfl
      have r6 := HX1.out.cell (i := 6) rfl
      have fr := fun j => HX1.out.frozen j
      obtain ⟨Y2, hY⟩ : ∃ Y, Y = ((((((Y1.setCell ⟨w.heap.size + 1, 0, none⟩ (.int .i64 D.c.a)).setCell ⟨w.heap.size + 1, 1, none⟩ (.int .i64 D.c.b)).setCell ⟨w.heap.size + 1, 2, none⟩ (.int .i64 D.v.a)).setCell ⟨w.heap.size + 1, 3, none⟩ (.int .i64 D.v.b)).setCell ⟨w.heap.size + 1, 4, none⟩ (.slice a6a n6a c6a)).setCell ⟨w.heap.size + 1, 5, none⟩ (.slice a6b n6b c6b)).setCell ⟨w.heap.size + 1, 6, none⟩ (.slice a6c n6c c6c) := ⟨_, rfl⟩
      have hYl : Within (w.heap.size + 1) (w.heap.size + 1 + 1) Y1 Y2 := by rw [hY]; exact ((((((((Within.refl (w.heap.size + 1) (w.heap.size + 1 + 1) Y1).setCell (b := w.heap.size + 1) (by omega) (by omega) 0 (.int .i64 D.c.a)).setCell (b := w.heap.size + 1) (by omega) (by omega) 1 (.int .i64 D.c.b)).setCell (b := w.heap.size + 1) (by omega) (by omega) 2 (.int .i64 D.v.a)).setCell (b := w.heap.size + 1) (by omega) (by omega) 3 (.int .i64 D.v.b)).setCell (b := w.heap.size + 1) (by omega) (by omega) 4 (.slice a6a n6a c6a)).setCell (b := w.heap.size + 1) (by omega) (by omega) 5 (.slice a6b n6b c6b)).setCell (b := w.heap.size + 1) (by omega) (by omega) 6 (.slice a6c n6c c6c))
      replace HYW := Lib.hid (HYW.out.trans (hYl.mono (by omega) (by omega)))
      replace HYB := Lib.hid (hYl.belowU HYB.out (by omega))
      go_simp
      refine hK.out _ _ ?_ (fun _ => ?_)
      · rw [← hY]; exact HCS.out _ HYW.out
      rw [← hY]
      clear hK K fr r0 r1 r2 r3 r4 r5 r6
      replace HX1 : Hid (BoxN Y2 (w.heap.size + 1) 104 [.int .i64 D.c.a, .int .i64 D.c.b, .int .i64 D.v.a, .int .i64 D.v.b, .slice a6a n6a c6a, .slice a6b n6b c6b, .slice a6c n6c c6c]) := by unfold Hid; rw [hY]; exact (((((((HX1.out.set 0 (.int .i64 D.c.a)).set 1 (.int .i64 D.c.b)).set 2 (.int .i64 D.v.a)).set 3 (.int .i64 D.v.b)).set 4 (.slice a6a n6a c6a)).set 5 (.slice a6b n6b c6b)).set 6 (.slice a6c n6c c6c))
      replace HX0 := Lib.hid (HX0.out.kept hYl (by omega))
      clear hY hYl
      (try simp only [Act.put, List.setIfInBounds_toArray, List.set_cons_zero, List.set_cons_succ])
      clear z_2_0 z_2_1 z_2_2 z_3_0 z_3_1 z_3_2 z_3_3 z_3_4 z_3_5 z_3_6
      obtain ⟨z_2_0, z_2_1, z_2_2, z_3_0, z_3_1, z_3_2, z_3_3, z_3_4, z_3_5, z_3_6⟩ := HCS.out _ HYW.out
      refine wpV_done ?_
      go_wp2_with fail
      refine NoPanic.normal ?_
      clear z_2_0 z_2_1 z_2_2 z_3_0 z_3_1 z_3_2 z_3_3 z_3_4 z_3_5 z_3_6
      have t_HX0_0 := HX0.out.cell (i := 0) rfl
      have t_HX0_1 := HX0.out.cell (i := 1) rfl
      have t_HX0_2 := HX0.out.cell (i := 2) rfl
      have t_HX1_0 := HX1.out.cell (i := 0) rfl
      have t_HX1_1 := HX1.out.cell (i := 1) rfl
      have t_HX1_2 := HX1.out.cell (i := 2) rfl
      have t_HX1_3 := HX1.out.cell (i := 3) rfl
      have t_HX1_4 := HX1.out.cell (i := 4) rfl
      have t_HX1_5 := HX1.out.cell (i := 5) rfl
      have t_HX1_6 := HX1.out.cell (i := 6) rfl
      try (go_wp2_with fail)
      refine bodyPost_ret (v := .tuple #[.agg #[.int .i64 P, .int .i64 Q, .int .i64 G], .agg #[.int .i64 D.c.a, .int .i64 D.c.b, .int .i64 D.v.a, .int .i64 D.v.b, .slice a6a n6a c6a, .slice a6b n6b c6b, .slice a6c n6c c6c]]) (by simp [results, Try.results72, go_sem, t_HX0_0, t_HX0_1, t_HX0_2, t_HX1_0, t_HX1_1, t_HX1_2, t_HX1_3, t_HX1_4, t_HX1_5, t_HX1_6]) rfl ⟨⟨_, _, _, _, _, _, _, _, _, _, _, _, _, rfl, HGR.out, ⟨⟨by omega, by omega⟩, ⟨by omega, by omega⟩⟩, ⟨⟨by omega, by omega⟩, ⟨by omega, by omega⟩⟩, ⟨(HL6a.out.within HYW.out (by omega)).here, by have := HE6a.out; omega⟩, ⟨(HL6b.out.within HYW.out (by omega)).here, by have := HE6b.out; omega⟩, ⟨(HL6c.out.within HYW.out (by omega)).here, by have := HE6c.out; omega⟩⟩, HYB.out⟩
    | true =>
      have z_0_0 := HX0.out.cell (i := 0) rfl
      have z_0_1 := HX0.out.cell (i := 1) rfl
      have z_0_2 := HX0.out.cell (i := 2) rfl
      have z_1_0 := HX1.out.cell (i := 0) rfl
      have z_1_1 := HX1.out.cell (i := 1) rfl
      have z_1_2 := HX1.out.cell (i := 2) rfl
      have z_1_3 := HX1.out.cell (i := 3) rfl
      have z_1_4 := HX1.out.cell (i := 4) rfl
      have z_1_5 := HX1.out.cell (i := 5) rfl
      have z_1_6 := HX1.out.cell (i := 6) rfl
      have z_2_0 := HZ1.out.cell (i := 0) rfl
      have z_2_1 := HZ1.out.cell (i := 1) rfl
      have z_2_2 := HZ1.out.cell (i := 2) rfl
      have z_3_0 := HZ2.out.cell (i := 0) rfl
      have z_3_1 := HZ2.out.cell (i := 1) rfl
      have z_3_2 := HZ2.out.cell (i := 2) rfl
      have z_3_3 := HZ2.out.cell (i := 3) rfl
      have z_3_4 := HZ2.out.cell (i := 4) rfl
      have z_3_5 := HZ2.out.cell (i := 5) rfl
      have z_3_6 := HZ2.out.cell (i := 6) rfl
      try (go_wp2_with fail)
      clear z_0_0 z_0_1 z_0_2 z_1_0 z_1_1 z_1_2 z_1_3 z_1_4 z_1_5 z_1_6 z_2_0 z_2_1 z_2_2 z_3_0 z_3_1 z_3_2 z_3_3 z_3_4 z_3_5 z_3_6
      refine (spec_anyCipher U g _ P Q G _ HC.out (HW.out.belowOf HUC.out (Nat.le_of_eq HUS.out)) (by omega) HGR.out).mono ?_
      rintro e u6 ⟨⟨x6, y6, rfl, ⟨x6l, x6u⟩, ⟨y6l, y6u⟩⟩, hc, hw⟩
      have hsz6 := hw.size
      replace HX0 := Lib.hid (HX0.out.kept hw (.inl (by omega)))
      replace HX1 := Lib.hid (HX1.out.kept hw (.inl (by omega)))
      replace HZ1 := Lib.hid (HZ1.out.kept hw (.inr (by omega)))
      replace HZ2 := Lib.hid (HZ2.out.kept hw (.inr (by omega)))
      replace HL3a := Lib.hid (HL3a.out.within hw (by omega))
      replace HL3b := Lib.hid (HL3b.out.within hw (by omega))
      replace HL3c := Lib.hid (HL3c.out.within hw (by omega))
      replace HW := Lib.hid (HW.out.trans hw)
      replace HC := Lib.hid hc
      clear hc hw
      have z_0_0 := HX0.out.cell (i := 0) rfl
      have z_0_1 := HX0.out.cell (i := 1) rfl
      have z_0_2 := HX0.out.cell (i := 2) rfl
      have z_1_0 := HX1.out.cell (i := 0) rfl
      have z_1_1 := HX1.out.cell (i := 1) rfl
      have z_1_2 := HX1.out.cell (i := 2) rfl
      have z_1_3 := HX1.out.cell (i := 3) rfl
      have z_1_4 := HX1.out.cell (i := 4) rfl
      have z_1_5 := HX1.out.cell (i := 5) rfl
      have z_1_6 := HX1.out.cell (i := 6) rfl
      have z_2_0 := HZ1.out.cell (i := 0) rfl
      have z_2_1 := HZ1.out.cell (i := 1) rfl
      have z_2_2 := HZ1.out.cell (i := 2) rfl
      have z_3_0 := HZ2.out.cell (i := 0) rfl
      have z_3_1 := HZ2.out.cell (i := 1) rfl
      have z_3_2 := HZ2.out.cell (i := 2) rfl
      have z_3_3 := HZ2.out.cell (i := 3) rfl
      have z_3_4 := HZ2.out.cell (i := 4) rfl
      have z_3_5 := HZ2.out.cell (i := 5) rfl
      have z_3_6 := HZ2.out.cell (i := 6) rfl
      have frm := fun j => HZ2.out.frozen j
      have ltm := HZ2.out.lt
      go_wp2_with fail
      obtain ⟨Y7, hY⟩ : ∃ Y, Y = (u6.setCell ⟨u3.heap.size, 2, none⟩ (.int .i64 x6)).setCell ⟨u3.heap.size, 3, none⟩ (.int .i64 y6) := ⟨_, rfl⟩
      have hYl : Within (u3.heap.size) (u3.heap.size + 1) u6 Y7 := by rw [hY]; exact (((Within.refl (u3.heap.size) (u3.heap.size + 1) u6).setCell (b := u3.heap.size) (by omega) (by omega) 2 (.int .i64 x6)).setCell (b := u3.heap.size) (by omega) (by omega) 3 (.int .i64 y6))
      have hszY7 := hYl.size
      have NHZ2 : Hid (BoxN Y7 u3.heap.size 104 [.int .i64 D.c.a, .int .i64 D.c.b, .int .i64 x6, .int .i64 y6, .slice a3a n3a_ c3a, .slice a3b n3b_ c3b, .slice a3c n3c_ c3c]) := by unfold Hid; rw [hY]; exact ((HZ2.out.set 2 (.int .i64 x6)).set 3 (.int .i64 y6))
      have NC := Lib.hid ((HC.out.setNew (b := u3.heap.size) (by omega) 2 (.int .i64 x6)).setNew (b := u3.heap.size) (by omega) 3 (.int .i64 y6))
      rw [← hY] at NC
      have NW := Lib.hid ((HW.out.setNew (b := u3.heap.size) (by omega) 2 (.int .i64 x6)).setNew (b := u3.heap.size) (by omega) 3 (.int .i64 y6))
      rw [← hY] at NW
      replace HX0 := Lib.hid (HX0.out.kept hYl (by omega))
      replace HX1 := Lib.hid (HX1.out.kept hYl (by omega))
      replace HZ1 := Lib.hid (HZ1.out.kept hYl (by omega))
      replace HL3a := Lib.hid (HL3a.out.within hYl (by omega))
      replace HL3b := Lib.hid (HL3b.out.within hYl (by omega))
      replace HL3c := Lib.hid (HL3c.out.within hYl (by omega))
      rw [← hY]
      clear hY hYl frm ltm HZ2 HC HW
      have HZ2 := NHZ2
      have HC := NC
      have HW := NW
      clear NHZ2 NC NW
      clear z_0_0 z_0_1 z_0_2 z_1_0 z_1_1 z_1_2 z_1_3 z_1_4 z_1_5 z_1_6 z_2_0 z_2_1 z_2_2 z_3_0 z_3_1 z_3_2 z_3_3 z_3_4 z_3_5 z_3_6
      have z_0_0 := HX0.out.cell (i := 0) rfl
      have z_0_1 := HX0.out.cell (i := 1) rfl
      have z_0_2 := HX0.out.cell (i := 2) rfl
      have z_1_0 := HX1.out.cell (i := 0) rfl
      have z_1_1 := HX1.out.cell (i := 1) rfl
      have z_1_2 := HX1.out.cell (i := 2) rfl
      have z_1_3 := HX1.out.cell (i := 3) rfl
      have z_1_4 := HX1.out.cell (i := 4) rfl
      have z_1_5 := HX1.out.cell (i := 5) rfl
      have z_1_6 := HX1.out.cell (i := 6) rfl
      have z_2_0 := HZ1.out.cell (i := 0) rfl
      have z_2_1 := HZ1.out.cell (i := 1) rfl
      have z_2_2 := HZ1.out.cell (i := 2) rfl
      have z_3_0 := HZ2.out.cell (i := 0) rfl
      have z_3_1 := HZ2.out.cell (i := 1) rfl
      have z_3_2 := HZ2.out.cell (i := 2) rfl
      have z_3_3 := HZ2.out.cell (i := 3) rfl
      have z_3_4 := HZ2.out.cell (i := 4) rfl
      have z_3_5 := HZ2.out.cell (i := 5) rfl
      have z_3_6 := HZ2.out.cell (i := 6) rfl
      try (go_wp2_with fail)
      clear z_0_0 z_0_1 z_0_2 z_1_0 z_1_1 z_1_2 z_1_3 z_1_4 z_1_5 z_1_6 z_2_0 z_2_1 z_2_2 z_3_0 z_3_1 z_3_2 z_3_3 z_3_4 z_3_5 z_3_6
      refine (spec_bent U g _ P Q G _ _ _ l3a l3b l3c _ HC.out (HW.out.belowOf HUC.out (Nat.le_of_eq HUS.out)) (by omega) HGR.out HL3a.out.here HL3b.out.here HL3c.out.here (by have := HE3a.out; omega) (by have := HE3b.out; omega) (by have := HE3c.out; omega)).mono ?_
      rintro e u8 ⟨⟨v8a, v8b, v8c, l8a, l8b, l8c, rfl, ⟨hs8a, hl8a⟩, ⟨hs8b, hl8b⟩, ⟨hs8c, hl8c⟩⟩, hc, hw⟩
      have HL8a := Lib.hid hs8a
      obtain ⟨a8a, n8a, c8a, rfl⟩ := hs8a.here.shape
      have hn8a : n8a ≤ 31 := by have h1 := hs8a.here.len; omega
      have HE8a := Lib.hid hs8a.here.len
      clear hs8a
      have HL8b := Lib.hid hs8b
      obtain ⟨a8b, n8b, c8b, rfl⟩ := hs8b.here.shape
      have hn8b : n8b ≤ 31 := by have h1 := hs8b.here.len; omega
      have HE8b := Lib.hid hs8b.here.len
      clear hs8b
      have HL8c := Lib.hid hs8c
      obtain ⟨a8c, n8c, c8c, rfl⟩ := hs8c.here.shape
      have hn8c : n8c ≤ 31 := by have h1 := hs8c.here.len; omega
      have HE8c := Lib.hid hs8c.here.len
      clear hs8c
      have hsz8 := hw.size
      replace HX0 := Lib.hid (HX0.out.kept hw (.inl (by omega)))
      replace HX1 := Lib.hid (HX1.out.kept hw (.inl (by omega)))
      replace HZ1 := Lib.hid (HZ1.out.kept hw (.inr (by omega)))
      replace HZ2 := Lib.hid (HZ2.out.kept hw (.inr (by omega)))
      replace HL3a := Lib.hid (HL3a.out.within hw (by omega))
      replace HL3b := Lib.hid (HL3b.out.within hw (by omega))
      replace HL3c := Lib.hid (HL3c.out.within hw (by omega))
      replace HW := Lib.hid (HW.out.trans hw)
      replace HC := Lib.hid hc
      clear hc hw
      have z_0_0 := HX0.out.cell (i := 0) rfl
      have z_0_1 := HX0.out.cell (i := 1) rfl
      have z_0_2 := HX0.out.cell (i := 2) rfl
      have z_1_0 := HX1.out.cell (i := 0) rfl
      have z_1_1 := HX1.out.cell (i := 1) rfl
      have z_1_2 := HX1.out.cell (i := 2) rfl
      have z_1_3 := HX1.out.cell (i := 3) rfl
      have z_1_4 := HX1.out.cell (i := 4) rfl
      have z_1_5 := HX1.out.cell (i := 5) rfl
      have z_1_6 := HX1.out.cell (i := 6) rfl
      have z_2_0 := HZ1.out.cell (i := 0) rfl
      have z_2_1 := HZ1.out.cell (i := 1) rfl
      have z_2_2 := HZ1.out.cell (i := 2) rfl
      have z_3_0 := HZ2.out.cell (i := 0) rfl
      have z_3_1 := HZ2.out.cell (i := 1) rfl
      have z_3_2 := HZ2.out.cell (i := 2) rfl
      have z_3_3 := HZ2.out.cell (i := 3) rfl
      have z_3_4 := HZ2.out.cell (i := 4) rfl
      have z_3_5 := HZ2.out.cell (i := 5) rfl
      have z_3_6 := HZ2.out.cell (i := 6) rfl
      have frm := fun j => HZ2.out.frozen j
      have ltm := HZ2.out.lt
      go_wp2_with fail
      obtain ⟨Y9, hY⟩ : ∃ Y, Y = ((u8.setCell ⟨u3.heap.size, 4, none⟩ (.slice a8a n8a c8a)).setCell ⟨u3.heap.size, 5, none⟩ (.slice a8b n8b c8b)).setCell ⟨u3.heap.size, 6, none⟩ (.slice a8c n8c c8c) := ⟨_, rfl⟩
      have hYl : Within (u3.heap.size) (u3.heap.size + 1) u8 Y9 := by rw [hY]; exact ((((Within.refl (u3.heap.size) (u3.heap.size + 1) u8).setCell (b := u3.heap.size) (by omega) (by omega) 4 (.slice a8a n8a c8a)).setCell (b := u3.heap.size) (by omega) (by omega) 5 (.slice a8b n8b c8b)).setCell (b := u3.heap.size) (by omega) (by omega) 6 (.slice a8c n8c c8c))
      have hszY9 := hYl.size
      have NHZ2 : Hid (BoxN Y9 u3.heap.size 104 [.int .i64 D.c.a, .int .i64 D.c.b, .int .i64 x6, .int .i64 y6, .slice a8a n8a c8a, .slice a8b n8b c8b, .slice a8c n8c c8c]) := by unfold Hid; rw [hY]; exact (((HZ2.out.set 4 (.slice a8a n8a c8a)).set 5 (.slice a8b n8b c8b)).set 6 (.slice a8c n8c c8c))
      have NC := Lib.hid (((HC.out.setNew (b := u3.heap.size) (by omega) 4 (.slice a8a n8a c8a)).setNew (b := u3.heap.size) (by omega) 5 (.slice a8b n8b c8b)).setNew (b := u3.heap.size) (by omega) 6 (.slice a8c n8c c8c))
      rw [← hY] at NC
      have NW := Lib.hid (((HW.out.setNew (b := u3.heap.size) (by omega) 4 (.slice a8a n8a c8a)).setNew (b := u3.heap.size) (by omega) 5 (.slice a8b n8b c8b)).setNew (b := u3.heap.size) (by omega) 6 (.slice a8c n8c c8c))
      rw [← hY] at NW
      replace HX0 := Lib.hid (HX0.out.kept hYl (by omega))
      replace HX1 := Lib.hid (HX1.out.kept hYl (by omega))
      replace HZ1 := Lib.hid (HZ1.out.kept hYl (by omega))
      replace HL3a := Lib.hid (HL3a.out.within hYl (by omega))
      replace HL3b := Lib.hid (HL3b.out.within hYl (by omega))
      replace HL3c := Lib.hid (HL3c.out.within hYl (by omega))
      replace HL8a := Lib.hid (HL8a.out.within hYl (by omega))
      replace HL8b := Lib.hid (HL8b.out.within hYl (by omega))
      replace HL8c := Lib.hid (HL8c.out.within hYl (by omega))
      rw [← hY]
      clear hY hYl frm ltm HZ2 HC HW
      have HZ2 := NHZ2
      have HC := NC
      have HW := NW
      clear NHZ2 NC NW
      clear z_0_0 z_0_1 z_0_2 z_1_0 z_1_1 z_1_2 z_1_3 z_1_4 z_1_5 z_1_6 z_2_0 z_2_1 z_2_2 z_3_0 z_3_1 z_3_2 z_3_3 z_3_4 z_3_5 z_3_6
      have z_0_0 := HX0.out.cell (i := 0) rfl
      have z_0_1 := HX0.out.cell (i := 1) rfl
      have z_0_2 := HX0.out.cell (i := 2) rfl
      have z_1_0 := HX1.out.cell (i := 0) rfl
      have z_1_1 := HX1.out.cell (i := 1) rfl
      have z_1_2 := HX1.out.cell (i := 2) rfl
      have z_1_3 := HX1.out.cell (i := 3) rfl
      have z_1_4 := HX1.out.cell (i := 4) rfl
      have z_1_5 := HX1.out.cell (i := 5) rfl
      have z_1_6 := HX1.out.cell (i := 6) rfl
      have z_2_0 := HZ1.out.cell (i := 0) rfl
      have z_2_1 := HZ1.out.cell (i := 1) rfl
      have z_2_2 := HZ1.out.cell (i := 2) rfl
      have z_3_0 := HZ2.out.cell (i := 0) rfl
      have z_3_1 := HZ2.out.cell (i := 1) rfl
      have z_3_2 := HZ2.out.cell (i := 2) rfl
      have z_3_3 := HZ2.out.cell (i := 3) rfl
      have z_3_4 := HZ2.out.cell (i := 4) rfl
      have z_3_5 := HZ2.out.cell (i := 5) rfl
      have z_3_6 := HZ2.out.cell (i := 6) rfl
      try (go_wp2_with fail)
      clear z_0_0
      clear z_0_1
      clear z_0_2
      clear z_1_0
      clear z_1_1
      clear z_1_2
      clear z_1_3
      clear z_1_4
      clear z_1_5
      clear z_1_6
      refine wp_region_noPanic ?_
      refine wp_region_V (fun w' => w'.cell? ⟨u1.heap.size, 0, none⟩ = some (.int .i64 P) ∧ w'.cell? ⟨u1.heap.size, 1, none⟩ = some (.int .i64 Q) ∧ w'.cell? ⟨u1.heap.size, 2, none⟩ = some (.int .i64 G) ∧ w'.cell? ⟨u3.heap.size, 0, none⟩ = some (.int .i64 D.c.a) ∧ w'.cell? ⟨u3.heap.size, 1, none⟩ = some (.int .i64 D.c.b) ∧ w'.cell? ⟨u3.heap.size, 2, none⟩ = some (.int .i64 x6) ∧ w'.cell? ⟨u3.heap.size, 3, none⟩ = some (.int .i64 y6) ∧ w'.cell? ⟨u3.heap.size, 4, none⟩ = some (.slice a8a n8a c8a) ∧ w'.cell? ⟨u3.heap.size, 5, none⟩ = some (.slice a8b n8b c8b) ∧ w'.cell? ⟨u3.heap.size, 6, none⟩ = some (.slice a8c n8c c8c)) 6 4 (.rd 0 (.rd 1 (.alt 2 (.alt 3 .done .nil) .nil))) [] (by kernel_rfl) (by kernel_rfl) rfl (fun _ _ _ _ _ h => h) ⟨box_at z_2_0 (Below.refl _ _).drew, box_at z_2_1 (Below.refl _ _).drew, box_at z_2_2 (Below.refl _ _).drew, box_at z_3_0 (Below.refl _ _).drew, box_at z_3_1 (Below.refl _ _).drew, box_at z_3_2 (Below.refl _ _).drew, box_at z_3_3 (Below.refl _ _).drew, box_at z_3_4 (Below.refl _ _).drew, box_at z_3_5 (Below.refl _ _).drew, box_at z_3_6 (Below.refl _ _).drew⟩ ?_
      simp only [pickV, pickN, List.getElem?_cons_zero, List.getElem?_cons_succ]
      repeat (refine' wpV_read _ (by kernel_rfl) (fun w' hS' => ?_) ?_; rotate_left; · ((try dsimp only at hS'); go_simp; (try with_reducible rfl)); (try simp only [Act.put, List.setIfInBounds_toArray, List.set_cons_zero, List.set_cons_succ]))
      have hdr : Below Y9.heap.size Y9 Y9.drew := (Below.refl _ _).drew
      have hszd := hdr.size
      replace HX0 := Lib.hid (HX0.out.below hdr)
      replace HX1 := Lib.hid (HX1.out.below hdr)
      replace HZ1 := Lib.hid (HZ1.out.below hdr)
      replace HZ2 := Lib.hid (HZ2.out.below hdr)
      replace HL3a := Lib.hid (HL3a.out.below hdr)
      replace HL3b := Lib.hid (HL3b.out.below hdr)
      replace HL3c := Lib.hid (HL3c.out.below hdr)
      replace HL8a := Lib.hid (HL8a.out.below hdr)
      replace HL8b := Lib.hid (HL8b.out.below hdr)
      replace HL8c := Lib.hid (HL8c.out.below hdr)
      replace HW := Lib.hid (HW.out.trans (Within.of_below hdr))
      replace HC := Lib.hid (HC.out.keep hdr)
      clear hdr
      refine wpV_do (by kernel_rfl) (fun K hK => ?_)
      -- 2: store
      have r0 := HX0.out.cell (i := 0) rfl
      have r1 := HX0.out.cell (i := 1) rfl
      have r2 := HX0.out.cell (i := 2) rfl
      have fr := fun j => HX0.out.frozen j
      have q0 : Y9.cell? ⟨w.heap.size, 0, none⟩ = some (.int .i64 0) := r0
      have q1 : Y9.cell? ⟨w.heap.size, 1, none⟩ = some (.int .i64 0) := r1
      have q2 : Y9.cell? ⟨w.heap.size, 2, none⟩ = some (.int .i64 0) := r2
      have frd : ∀ j, Y9.frozen? ⟨w.heap.size, j, none⟩ = false := fr
      obtain ⟨Y1, hY⟩ : ∃ Y, Y = (((Y9.setCell ⟨w.heap.size, 0, none⟩ (.int .i64 P)).setCell ⟨w.heap.size, 1, none⟩ (.int .i64 Q)).setCell ⟨w.heap.size, 2, none⟩ (.int .i64 G)).drew := ⟨_, rfl⟩
      have hYG := hY
      replace hY : Y1 = ((Y9.drew.setCell ⟨w.heap.size, 0, none⟩ (.int .i64 P)).setCell ⟨w.heap.size, 1, none⟩ (.int .i64 Q)).setCell ⟨w.heap.size, 2, none⟩ (.int .i64 G) := by rw [hY]; first | rfl | simp [go_sem]
      have hYl : Within (w.heap.size) (w.heap.size + 1) Y9.drew Y1 := by rw [hY]; exact ((((Within.refl (w.heap.size) (w.heap.size + 1) Y9.drew).setCell (b := w.heap.size) (by omega) (by omega) 0 (.int .i64 P)).setCell (b := w.heap.size) (by omega) (by omega) 1 (.int .i64 Q)).setCell (b := w.heap.size) (by omega) (by omega) 2 (.int .i64 G))
      have HYW : Hid (Within w.heap.size (w.heap.size + 2) Y9.drew Y1) := hYl.mono (by omega) (by omega)
      have HYB : Hid (Below w.heap.size w Y1) := hYl.belowU (HW.out.belowOf HBW.out (by omega)) (by omega)
      have HCS : Hid (∀ w', Within w.heap.size (w.heap.size + 2) Y9.drew w' → w'.cell? ⟨u1.heap.size, 0, none⟩ = some (.int .i64 P) ∧ w'.cell? ⟨u1.heap.size, 1, none⟩ = some (.int .i64 Q) ∧ w'.cell? ⟨u1.heap.size, 2, none⟩ = some (.int .i64 G) ∧ w'.cell? ⟨u3.heap.size, 0, none⟩ = some (.int .i64 D.c.a) ∧ w'.cell? ⟨u3.heap.size, 1, none⟩ = some (.int .i64 D.c.b) ∧ w'.cell? ⟨u3.heap.size, 2, none⟩ = some (.int .i64 x6) ∧ w'.cell? ⟨u3.heap.size, 3, none⟩ = some (.int .i64 y6) ∧ w'.cell? ⟨u3.heap.size, 4, none⟩ = some (.slice a8a n8a c8a) ∧ w'.cell? ⟨u3.heap.size, 5, none⟩ = some (.slice a8b n8b c8b) ∧ w'.cell? ⟨u3.heap.size, 6, none⟩ = some (.slice a8c n8c c8c)) := fun w' h => ⟨within_at h z_2_0 (by omega), within_at h z_2_1 (by omega), within_at h z_2_2 (by omega), within_at h z_3_0 (by omega), within_at h z_3_1 (by omega), within_at h z_3_2 (by omega), within_at h z_3_3 (by omega), within_at h z_3_4 (by omega), within_at h z_3_5 (by omega), within_at h z_3_6 (by omega)⟩
      go_simp
      refine hK.out _ _ ?_ (fun _ => ?_)
      · rw [← hYG]; exact HCS.out _ HYW.out
      rw [← hYG]
      clear hK K fr r0 r1 r2
      replace HX0 : Hid (BoxN Y1 w.heap.size 39 [.int .i64 P, .int .i64 Q, .int .i64 G]) := by unfold Hid; rw [hY]; exact (((HX0.out.set 0 (.int .i64 P)).set 1 (.int .i64 Q)).set 2 (.int .i64 G))
      replace HX1 := Lib.hid (HX1.out.kept hYl (by omega))
      clear hYG frd q0 q1 q2
      clear hY hYl
      (try simp only [Act.put, List.setIfInBounds_toArray, List.set_cons_zero, List.set_cons_succ])
      clear z_2_0 z_2_1 z_2_2 z_3_0 z_3_1 z_3_2 z_3_3 z_3_4 z_3_5 z_3_6
      obtain ⟨z_2_0, z_2_1, z_2_2, z_3_0, z_3_1, z_3_2, z_3_3, z_3_4, z_3_5, z_3_6⟩ := HCS.out _ HYW.out
      refine wpV_do (by kernel_rfl) (fun K hK => ?_)
      -- 3: store
      have r0 := HX1.out.cell (i := 0) rfl
      have r1 := HX1.out.cell (i := 1) rfl
      have r2 := HX1.out.cell (i := 2) rfl
      have r3 := HX1.out.cell (i := 3) rfl
      have r4 := HX1.out.cell (i := 4) rfl
      have r5 := HX1.out.cell (i := 5) rfl
      have r6 := HX1.out.cell (i := 6) rfl
      have fr := fun j => HX1.out.frozen j
      obtain ⟨Y2, hY⟩ : ∃ Y, Y = ((((((Y1.setCell ⟨w.heap.size + 1, 0, none⟩ (.int .i64 D.c.a)).setCell ⟨w.heap.size + 1, 1, none⟩ (.int .i64 D.c.b)).setCell ⟨w.heap.size + 1, 2, none⟩ (.int .i64 x6)).setCell ⟨w.heap.size + 1, 3, none⟩ (.int .i64 y6)).setCell ⟨w.heap.size + 1, 4, none⟩ (.slice a8a n8a c8a)).setCell ⟨w.heap.size + 1, 5, none⟩ (.slice a8b n8b c8b)).setCell ⟨w.heap.size + 1, 6, none⟩ (.slice a8c n8c c8c) := ⟨_, rfl⟩
      have hYl : Within (w.heap.size + 1) (w.heap.size + 1 + 1) Y1 Y2 := by rw [hY]; exact ((((((((Within.refl (w.heap.size + 1) (w.heap.size + 1 + 1) Y1).setCell (b := w.heap.size + 1) (by omega) (by omega) 0 (.int .i64 D.c.a)).setCell (b := w.heap.size + 1) (by omega) (by omega) 1 (.int .i64 D.c.b)).setCell (b := w.heap.size + 1) (by omega) (by omega) 2 (.int .i64 x6)).setCell (b := w.heap.size + 1) (by omega) (by omega) 3 (.int .i64 y6)).setCell (b := w.heap.size + 1) (by omega) (by omega) 4 (.slice a8a n8a c8a)).setCell (b := w.heap.size + 1) (by omega) (by omega) 5 (.slice a8b n8b c8b)).setCell (b := w.heap.size + 1) (by omega) (by omega) 6 (.slice a8c n8c c8c))
      replace HYW := Lib.hid (HYW.out.trans (hYl.mono (by omega) (by omega)))
      replace HYB := Lib.hid (hYl.belowU HYB.out (by omega))
      go_simp
      refine hK.out _ _ ?_ (fun _ => ?_)
      · rw [← hY]; exact HCS.out _ HYW.out
      rw [← hY]
      clear hK K fr r0 r1 r2 r3 r4 r5 r6
      replace HX1 : Hid (BoxN Y2 (w.heap.size + 1) 104 [.int .i64 D.c.a, .int .i64 D.c.b, .int .i64 x6, .int .i64 y6, .slice a8a n8a c8a, .slice a8b n8b c8b, .slice a8c n8c c8c]) := by unfold Hid; rw [hY]; exact (((((((HX1.out.set 0 (.int .i64 D.c.a)).set 1 (.int .i64 D.c.b)).set 2 (.int .i64 x6)).set 3 (.int .i64 y6)).set 4 (.slice a8a n8a c8a)).set 5 (.slice a8b n8b c8b)).set 6 (.slice a8c n8c c8c))
      replace HX0 := Lib.hid (HX0.out.kept hYl (by omega))
      clear hY hYl
      (try simp only [Act.put, List.setIfInBounds_toArray, List.set_cons_zero, List.set_cons_succ])
      clear z_2_0 z_2_1 z_2_2 z_3_0 z_3_1 z_3_2 z_3_3 z_3_4 z_3_5 z_3_6
      obtain ⟨z_2_0, z_2_1, z_2_2, z_3_0, z_3_1, z_3_2, z_3_3, z_3_4, z_3_5, z_3_6⟩ := HCS.out _ HYW.out
      refine wpV_done ?_
      go_wp2_with fail
      refine NoPanic.normal ?_
      clear z_2_0 z_2_1 z_2_2 z_3_0 z_3_1 z_3_2 z_3_3 z_3_4 z_3_5 z_3_6
      have t_HX0_0 := HX0.out.cell (i := 0) rfl
      have t_HX0_1 := HX0.out.cell (i := 1) rfl
      have t_HX0_2 := HX0.out.cell (i := 2) rfl
      have t_HX1_0 := HX1.out.cell (i := 0) rfl
      have t_HX1_1 := HX1.out.cell (i := 1) rfl
      have t_HX1_2 := HX1.out.cell (i := 2) rfl
      have t_HX1_3 := HX1.out.cell (i := 3) rfl
      have t_HX1_4 := HX1.out.cell (i := 4) rfl
      have t_HX1_5 := HX1.out.cell (i := 5) rfl
      have t_HX1_6 := HX1.out.cell (i := 6) rfl
      try (go_wp2_with fail)
      refine bodyPost_ret (v := .tuple #[.agg #[.int .i64 P, .int .i64 Q, .int .i64 G], .agg #[.int .i64 D.c.a, .int .i64 D.c.b, .int .i64 x6, .int .i64 y6, .slice a8a n8a c8a, .slice a8b n8b c8b, .slice a8c n8c c8c]]) (by simp [results, Try.results72, go_sem, t_HX0_0, t_HX0_1, t_HX0_2, t_HX1_0, t_HX1_1, t_HX1_2, t_HX1_3, t_HX1_4, t_HX1_5, t_HX1_6]) rfl ⟨⟨_, _, _, _, _, _, _, _, _, _, _, _, _, rfl, HGR.out, ⟨⟨by omega, by omega⟩, ⟨by omega, by omega⟩⟩, ⟨⟨by omega, by omega⟩, ⟨by omega, by omega⟩⟩, ⟨(HL8a.out.within HYW.out (by omega)).here, by have := HE8a.out; omega⟩, ⟨(HL8b.out.within HYW.out (by omega)).here, by have := HE8b.out; omega⟩, ⟨(HL8c.out.within HYW.out (by omega)).here, by have := HE8c.out; omega⟩⟩, HYB.out⟩
end Go.Proofs.Ytboahnklilmdpaa
