/- The walks of laws, by program (genlaw4.py). -/
import Derived.Test.YtodennbdfloccaaGreatVDet
import Derived.Test.YtodennbdfloccaaGreatKReaderS
import Derived.Test.YtodennbdfloccaaGreatGrpL
namespace Go.Proofs.YtodennbdfloccaaGreat
open Go.RowKit
set_option linter.unusedSimpArgs false
set_option linter.unusedVariables false

set_option maxRecDepth 100000 in
set_option maxHeartbeats 2000000 in
theorem law_RoundsToDetect (gr : GroupD) (keys : Value) (lkeys : List Int) (readers : Value) (lreaders : List ReaderD) (pairs : Value) (lpairs : List (List Int)) (most : Int) (w : World) (hkeys : Ints w keys lkeys) (hreaders : (kR 101 rReader).rd w readers lreaders) (hpairs : RdL kInts w pairs lpairs) (_hmost : I64 most) :
    Calls Tryz.prog 6 #[.agg #[.int .i64 gr.p, .int .i64 gr.q, .int .i64 gr.g], keys, readers, pairs, .int .i64 most] w fun e w' => e = .returned (.bool true) ∧ Below w.heap.size w w' := by
  clear _hmost
  obtain ⟨W, hW⟩ : ∃ W, W = w.alloc (.cells #[.int .i64 gr.p, .int .i64 gr.q, .int .i64 gr.g] 23) := ⟨_, rfl⟩
  have HWB : Hid (Below w.heap.size w W) := by unfold Hid; rw [hW]; (repeat (first | exact Below.refl _ _ | assumption | refine Below.drew ?_ | refine Below.alloc ?_ (by first | (simp; done) | (simp; omega)) _ | refine Below.setCell ?_ (by first | (simp; done) | (simp; omega)) _))
  have BXgr0 : Hid (W.cell? ⟨w.heap.size, 0, none⟩ = some (.int .i64 gr.p)) := by unfold Hid; rw [hW]; simp [go_sem]
  have BXgr1 : Hid (W.cell? ⟨w.heap.size, 1, none⟩ = some (.int .i64 gr.q)) := by unfold Hid; rw [hW]; simp [go_sem]
  have BXgr2 : Hid (W.cell? ⟨w.heap.size, 2, none⟩ = some (.int .i64 gr.g)) := by unfold Hid; rw [hW]; simp [go_sem]
  replace hkeys := (hkeys.below HWB.out)
  replace hreaders := ((kR 101 rReader).rd_below hreaders HWB.out)
  replace hpairs := (kRows.rd_below hpairs HWB.out)
  obtain ⟨adkeys, nkeys, ckeys, rfl⟩ := hkeys.shape
  have HLkeys := Lib.hid hkeys.len
  have Hkeys := Lib.hid hkeys; clear hkeys
  have Hreaders := Lib.hid hreaders; clear hreaders
  have Hpairs := Lib.hid hpairs; clear hpairs
  by_cases hnkeys : 1048576 < (nkeys : Int)
  · go_enter Tryz.func6, Tryz.ntmps6
    go_wp2_with fail
    go_ret
    exact ⟨rfl, by (repeat (first | exact Below.refl _ _ | assumption | refine Below.drew ?_ | refine Below.alloc ?_ (by first | (simp; done) | (simp; omega)) _ | refine Below.setCell ?_ (by first | (simp; done) | (simp; omega)) _))⟩
  · skip
    go_enter Tryz.func6, Tryz.ntmps6
    go_wp2_with fail
    rw [← hW]
    clear hW
    have pxgr0_0 := BXgr0.out
    have pxgr1_0 := BXgr1.out
    have pxgr2_0 := BXgr2.out
    refine (laws_szReaderS _ lreaders 1048576 _ ((kR 101 rReader).rd_below Hreaders.out (Below.refl _ _)) (by decide) (by decide)).mono ?_
    rintro e w1 ⟨⟨r0, rfl, hr0, hsz0⟩, hb1⟩
    replace hsz0 : 0 ≤ r0 → (szReaderS lreaders : Int) ≤ 1048576 ∧ r0 ≤ 1048576 := fun h => by have := hsz0 h; omega
    have HB1 := Lib.hid (Below.next (Below.refl _ _) hb1)
    have hs1 := hb1.size
    have AJ1 := Lib.hid hb1; clear hb1
    have pxgr0_1 := box_at BXgr0.out HB1.out
    clear pxgr0_0
    have pxgr1_1 := box_at BXgr1.out HB1.out
    clear pxgr1_0
    have pxgr2_1 := box_at BXgr2.out HB1.out
    clear pxgr2_0
    by_cases hneg0 : r0 < 0
    · go_wp2_with fail
      go_ret
      exact ⟨rfl, HWB.out.trans (HB1.out.mono HWB.out.size)⟩
    · have HZreaders : Hid ((szReaderS lreaders : Int) ≤ 1000000000) := by have := (hsz0 (by omega)).1; unfold Hid; omega
      have hrb0 : r0 ≤ 1048576 := by have := (hsz0 (by omega)).2; omega
      clear hsz0
      go_wp2_with fail
      refine (laws_szIntSS _ lpairs r0 _ (kRows.rd_below Hpairs.out HB1.out) (by omega) (by omega)).mono ?_
      rintro e w' ⟨⟨r1, rfl, hr1, hsz1⟩, rfl⟩
      by_cases hneg1 : r1 < 0
      · go_wp2_with fail
        go_ret
        exact ⟨rfl, HWB.out.trans (HB1.out.mono HWB.out.size)⟩
      · have HZpairs : Hid (((lpairs.length : Int) + total lpairs) ≤ 1000000000) := by have := (hsz1 (by omega)).1; unfold Hid; omega
        have hrb1 : r1 ≤ 1048576 := by have := (hsz1 (by omega)).2; omega
        clear hsz1
        go_wp2_with fail
        refine (laws_toGroup gr _).mono ?_
        rintro e w2 ⟨rfl, hb2⟩
        have HB2 := Lib.hid (Below.next HB1.out hb2)
        have hs2 := hb2.size
        have AJ2 := Lib.hid hb2; clear hb2
        have pxgr0_2 := box_at BXgr0.out HB2.out
        clear pxgr0_1
        have pxgr1_2 := box_at BXgr1.out HB2.out
        clear pxgr1_1
        have pxgr2_2 := box_at BXgr2.out HB2.out
        clear pxgr2_1
        go_wp2_with fail
        refine (laws_toIntS _ lkeys _ (Hkeys.out.below HB2.out) (by rw [HLkeys.out]; omega)).mono ?_
        rintro e w3 ⟨skeys, rfl, hX, hb3⟩
        have Oskeys := Lib.hid (InI.of_own hX); clear hX
        have HB3 := Lib.hid (Below.next HB2.out hb3)
        have hs3 := hb3.size
        have AJ3 := Lib.hid hb3; clear hb3
        have pxgr0_3 := box_at BXgr0.out HB3.out
        clear pxgr0_2
        have pxgr1_3 := box_at BXgr1.out HB3.out
        clear pxgr1_2
        have pxgr2_3 := box_at BXgr2.out HB3.out
        clear pxgr2_2
        go_wp2_with fail
        refine (laws_toReaderS _ lreaders _ ((kR 101 rReader).rd_below Hreaders.out HB3.out) HZreaders.out).mono ?_
        rintro e w4 ⟨sreaders, rfl, hX, hb4⟩
        have Osreaders := Lib.hid (hX); clear hX
        have HB4 := Lib.hid (Below.next HB3.out hb4)
        have hs4 := hb4.size
        have AJ4 := Lib.hid hb4; clear hb4
        have pxgr0_4 := box_at BXgr0.out HB4.out
        clear pxgr0_3
        have pxgr1_4 := box_at BXgr1.out HB4.out
        clear pxgr1_3
        have pxgr2_4 := box_at BXgr2.out HB4.out
        clear pxgr2_3
        go_wp2_with fail
        refine (laws_toIntSS _ lpairs _ (kRows.rd_below Hpairs.out HB4.out) HZpairs.out).mono ?_
        rintro e w5 ⟨spairs, rfl, hX, hb5⟩
        have Ospairs := Lib.hid (hX); clear hX
        have HB5 := Lib.hid (Below.next HB4.out hb5)
        have hs5 := hb5.size
        have AJ5 := Lib.hid hb5; clear hb5
        have pxgr0_5 := box_at BXgr0.out HB5.out
        clear pxgr0_4
        have pxgr1_5 := box_at BXgr1.out HB5.out
        clear pxgr1_4
        have pxgr2_5 := box_at BXgr2.out HB5.out
        clear pxgr2_4
        go_wp2_with fail
        refine (spec_RoundsToDetect gr _ lkeys _ lreaders _ lpairs most _ ((Oskeys.out.next AJ4.out).next AJ5.out).reads HZreaders.out ((kR 101 rReader).own_rd (Kind.next (K := (kR 101 rReader).toKind) Osreaders.out AJ5.out)) HZpairs.out (kRows.own_rd Ospairs.out)).mono ?_
        rintro e w6 ⟨rfl, hb6⟩
        have HB6 := Lib.hid (Below.next HB5.out hb6)
        have hs6 := hb6.size
        have AJ6 := Lib.hid hb6; clear hb6
        have pxgr0_6 := box_at BXgr0.out HB6.out
        clear pxgr0_5
        have pxgr1_6 := box_at BXgr1.out HB6.out
        clear pxgr1_5
        have pxgr2_6 := box_at BXgr2.out HB6.out
        clear pxgr2_5
        go_wp2_with fail
        refine (laws_toIntS _ lkeys _ (Hkeys.out.below HB6.out) (by rw [HLkeys.out]; omega)).mono ?_
        rintro e w7 ⟨xkeys, rfl, hX, hb7⟩
        have Oxkeys := Lib.hid (InI.of_own hX); clear hX
        have HB7 := Lib.hid (Below.next HB6.out hb7)
        have hs7 := hb7.size
        have AJ7 := Lib.hid hb7; clear hb7
        have pxgr0_7 := box_at BXgr0.out HB7.out
        clear pxgr0_6
        have pxgr1_7 := box_at BXgr1.out HB7.out
        clear pxgr1_6
        have pxgr2_7 := box_at BXgr2.out HB7.out
        clear pxgr2_6
        go_wp2_with fail
        refine (laws_toReaderS _ lreaders _ ((kR 101 rReader).rd_below Hreaders.out HB7.out) HZreaders.out).mono ?_
        rintro e w8 ⟨xreaders, rfl, hX, hb8⟩
        have Oxreaders := Lib.hid (hX); clear hX
        have HB8 := Lib.hid (Below.next HB7.out hb8)
        have hs8 := hb8.size
        have AJ8 := Lib.hid hb8; clear hb8
        have pxgr0_8 := box_at BXgr0.out HB8.out
        clear pxgr0_7
        have pxgr1_8 := box_at BXgr1.out HB8.out
        clear pxgr1_7
        have pxgr2_8 := box_at BXgr2.out HB8.out
        clear pxgr2_7
        go_wp2_with fail
        refine (laws_toIntSS _ lpairs _ (kRows.rd_below Hpairs.out HB8.out) HZpairs.out).mono ?_
        rintro e w9 ⟨xpairs, rfl, hX, hb9⟩
        have Oxpairs := Lib.hid (hX); clear hX
        have HB9 := Lib.hid (Below.next HB8.out hb9)
        have hs9 := hb9.size
        have AJ9 := Lib.hid hb9; clear hb9
        have pxgr0_9 := box_at BXgr0.out HB9.out
        clear pxgr0_8
        have pxgr1_9 := box_at BXgr1.out HB9.out
        clear pxgr1_8
        have pxgr2_9 := box_at BXgr2.out HB9.out
        clear pxgr2_8
        go_wp2_with fail
        refine (laws_toGroup gr _).mono ?_
        rintro e w10 ⟨rfl, hb10⟩
        have HB10 := Lib.hid (Below.next HB9.out hb10)
        have hs10 := hb10.size
        have AJ10 := Lib.hid hb10; clear hb10
        have pxgr0_10 := box_at BXgr0.out HB10.out
        clear pxgr0_9
        have pxgr1_10 := box_at BXgr1.out HB10.out
        clear pxgr1_9
        have pxgr2_10 := box_at BXgr2.out HB10.out
        clear pxgr2_9
        go_wp2_with fail
        refine (impl_RoundsToDetect gr _ lkeys _ lreaders _ lpairs most _ (((Oxkeys.out.next AJ8.out).next AJ9.out).next AJ10.out).reads HZreaders.out ((kR 101 rReader).own_rd (Kind.next (K := (kR 101 rReader).toKind) (Kind.next (K := (kR 101 rReader).toKind) Oxreaders.out AJ9.out) AJ10.out)) HZpairs.out (kRows.own_rd (Kind.next (K := kRows) Oxpairs.out AJ10.out))).mono ?_
        rintro e w11 ⟨rfl, hb11⟩
        have HB11 := Lib.hid (Below.next HB10.out hb11)
        have hs11 := hb11.size
        have AJ11 := Lib.hid hb11; clear hb11
        have pxgr0_11 := box_at BXgr0.out HB11.out
        clear pxgr0_10
        have pxgr1_11 := box_at BXgr1.out HB11.out
        clear pxgr1_10
        have pxgr2_11 := box_at BXgr2.out HB11.out
        clear pxgr2_10
        go_wp2_with fail
        refine (laws_toIntS _ lkeys _ (Hkeys.out.below HB11.out) (by rw [HLkeys.out]; omega)).mono ?_
        rintro e w12 ⟨ykeys, rfl, hX, hb12⟩
        have Oykeys := Lib.hid (InI.of_own hX); clear hX
        have HB12 := Lib.hid (Below.next HB11.out hb12)
        have hs12 := hb12.size
        have AJ12 := Lib.hid hb12; clear hb12
        have pxgr0_12 := box_at BXgr0.out HB12.out
        clear pxgr0_11
        have pxgr1_12 := box_at BXgr1.out HB12.out
        clear pxgr1_11
        have pxgr2_12 := box_at BXgr2.out HB12.out
        clear pxgr2_11
        go_wp2_with fail
        refine (laws_eqIntS _ _ _ _ _ (((((Oxkeys.out.next AJ8.out).next AJ9.out).next AJ10.out).next AJ11.out).next AJ12.out).reads Oykeys.out.reads).mono ?_
        rintro e w13 ⟨rfl, m13, hw13⟩
        have hb13 := Below.drewOf hw13; clear hw13
        rw [decide_eq_true rfl]
        have HB13 := Lib.hid (Below.next HB12.out hb13)
        have hs13 := hb13.size
        have AJ13 := Lib.hid hb13; clear hb13
        have pxgr0_13 := box_at BXgr0.out HB13.out
        clear pxgr0_12
        have pxgr1_13 := box_at BXgr1.out HB13.out
        clear pxgr1_12
        have pxgr2_13 := box_at BXgr2.out HB13.out
        clear pxgr2_12
        go_wp2_with fail
        refine (laws_toReaderS _ lreaders _ ((kR 101 rReader).rd_below Hreaders.out HB13.out) HZreaders.out).mono ?_
        rintro e w14 ⟨yreaders, rfl, hX, hb14⟩
        have Oyreaders := Lib.hid (hX); clear hX
        have HB14 := Lib.hid (Below.next HB13.out hb14)
        have hs14 := hb14.size
        have AJ14 := Lib.hid hb14; clear hb14
        have pxgr0_14 := box_at BXgr0.out HB14.out
        clear pxgr0_13
        have pxgr1_14 := box_at BXgr1.out HB14.out
        clear pxgr1_13
        have pxgr2_14 := box_at BXgr2.out HB14.out
        clear pxgr2_13
        go_wp2_with fail
        refine (laws_eqReaderS _ _ _ _ _ ((kR 101 rReader).own_rd (Kind.next (K := (kR 101 rReader).toKind) (Kind.next (K := (kR 101 rReader).toKind) (Kind.next (K := (kR 101 rReader).toKind) (Kind.next (K := (kR 101 rReader).toKind) (Kind.next (K := (kR 101 rReader).toKind) (Kind.next (K := (kR 101 rReader).toKind) Oxreaders.out AJ9.out) AJ10.out) AJ11.out) AJ12.out) AJ13.out) AJ14.out)) ((kR 101 rReader).own_rd Oyreaders.out)).mono ?_
        rintro e w15 ⟨rfl, hb15⟩
        rw [decide_eq_true rfl]
        have HB15 := Lib.hid (Below.next HB14.out hb15)
        have hs15 := hb15.size
        have AJ15 := Lib.hid hb15; clear hb15
        have pxgr0_15 := box_at BXgr0.out HB15.out
        clear pxgr0_14
        have pxgr1_15 := box_at BXgr1.out HB15.out
        clear pxgr1_14
        have pxgr2_15 := box_at BXgr2.out HB15.out
        clear pxgr2_14
        go_wp2_with fail
        refine (laws_toIntSS _ lpairs _ (kRows.rd_below Hpairs.out HB15.out) HZpairs.out).mono ?_
        rintro e w16 ⟨ypairs, rfl, hX, hb16⟩
        have Oypairs := Lib.hid (hX); clear hX
        have HB16 := Lib.hid (Below.next HB15.out hb16)
        have hs16 := hb16.size
        have AJ16 := Lib.hid hb16; clear hb16
        have pxgr0_16 := box_at BXgr0.out HB16.out
        clear pxgr0_15
        have pxgr1_16 := box_at BXgr1.out HB16.out
        clear pxgr1_15
        have pxgr2_16 := box_at BXgr2.out HB16.out
        clear pxgr2_15
        go_wp2_with fail
        refine (laws_eqIntSS _ _ _ _ _ (kRows.own_rd (Kind.next (K := kRows) (Kind.next (K := kRows) (Kind.next (K := kRows) (Kind.next (K := kRows) (Kind.next (K := kRows) (Kind.next (K := kRows) (Kind.next (K := kRows) Oxpairs.out AJ10.out) AJ11.out) AJ12.out) AJ13.out) AJ14.out) AJ15.out) AJ16.out)) (kRows.own_rd Oypairs.out)).mono ?_
        rintro e w17 ⟨rfl, hb17⟩
        rw [decide_eq_true rfl]
        have HB17 := Lib.hid (Below.next HB16.out hb17)
        have hs17 := hb17.size
        have AJ17 := Lib.hid hb17; clear hb17
        have pxgr0_17 := box_at BXgr0.out HB17.out
        clear pxgr0_16
        have pxgr1_17 := box_at BXgr1.out HB17.out
        clear pxgr1_16
        have pxgr2_17 := box_at BXgr2.out HB17.out
        clear pxgr2_16
        go_wp2_with fail
        go_ret
        exact ⟨rfl, HWB.out.trans (HB17.out.mono HWB.out.size)⟩
end Go.Proofs.YtodennbdfloccaaGreat
