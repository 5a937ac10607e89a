/- The walks of laws, by program (genlaw4.py). -/
import Derived.Test.YtodennbdfloccaaGosB
import Derived.Test.YtodennbdfloccaaKReaderS
namespace Go.Proofs.Ytodennbdfloccaa
open Go.RowKit
set_option linter.unusedSimpArgs false
set_option linter.unusedVariables false

set_option maxRecDepth 100000 in
set_option maxHeartbeats 2000000 in
theorem law_GossipRound (readers : Value) (lreaders : List ReaderD) (pairs : Value) (lpairs : List (List Int)) (w : World) (hreaders : (kR 105 rReader).rd w readers lreaders) (hpairs : RdL kInts w pairs lpairs) :
    Calls Try.prog 10 #[readers, pairs] w fun e w' => e = .returned (.bool true) ∧ Below w.heap.size w w' := by
  have Hreaders := Lib.hid hreaders; clear hreaders
  have Hpairs := Lib.hid hpairs; clear hpairs
  go_enter Try.func10, Try.ntmps10
  go_wp2_with fail
  refine (laws_szReaderS _ lreaders 1048576 _ ((kR 105 rReader).rd_below Hreaders.out (Below.refl _ _)) (by decide) (by decide)).mono ?_
  rintro e w1 ⟨⟨r0, rfl, hr0, hsz0⟩, hb1⟩
  replace hsz0 : 0 ≤ r0 → (szReaderS lreaders : Int) ≤ 1048576 ∧ r0 ≤ 1048576 := fun h => by have := hsz0 h; omega
  have HB1 := Lib.hid (Below.next (Below.refl _ _) hb1)
  have hs1 := hb1.size
  have AJ1 := Lib.hid hb1; clear hb1
  by_cases hneg0 : r0 < 0
  · go_wp2_with fail
    go_ret
    exact ⟨rfl, HB1.out⟩
  · have HZreaders : Hid ((szReaderS lreaders : Int) ≤ 1000000000) := by have := (hsz0 (by omega)).1; unfold Hid; omega
    have hrb0 : r0 ≤ 1048576 := by have := (hsz0 (by omega)).2; omega
    clear hsz0
    go_wp2_with fail
    refine (laws_szIntSS _ lpairs r0 _ (kRows.rd_below Hpairs.out HB1.out) (by omega) (by omega)).mono ?_
    rintro e w' ⟨⟨r1, rfl, hr1, hsz1⟩, rfl⟩
    by_cases hneg1 : r1 < 0
    · go_wp2_with fail
      go_ret
      exact ⟨rfl, HB1.out⟩
    · have HZpairs : Hid (((lpairs.length : Int) + total lpairs) ≤ 1000000000) := by have := (hsz1 (by omega)).1; unfold Hid; omega
      have hrb1 : r1 ≤ 1048576 := by have := (hsz1 (by omega)).2; omega
      clear hsz1
      go_wp2_with fail
      refine (laws_toReaderS _ lreaders _ ((kR 105 rReader).rd_below Hreaders.out HB1.out) HZreaders.out).mono ?_
      rintro e w2 ⟨sreaders, rfl, hX, hb2⟩
      have Osreaders := Lib.hid (hX); clear hX
      have HB2 := Lib.hid (Below.next HB1.out hb2)
      have hs2 := hb2.size
      have AJ2 := Lib.hid hb2; clear hb2
      go_wp2_with fail
      refine (laws_toIntSS _ lpairs _ (kRows.rd_below Hpairs.out HB2.out) HZpairs.out).mono ?_
      rintro e w3 ⟨spairs, rfl, hX, hb3⟩
      have Ospairs := Lib.hid (hX); clear hX
      have HB3 := Lib.hid (Below.next HB2.out hb3)
      have hs3 := hb3.size
      have AJ3 := Lib.hid hb3; clear hb3
      go_wp2_with fail
      refine (spec_GossipRound _ lreaders _ lpairs _ HZreaders.out ((kR 105 rReader).own_rd (Kind.next (K := (kR 105 rReader).toKind) Osreaders.out AJ3.out)) HZpairs.out (kRows.own_rd Ospairs.out)).mono ?_
      rintro e w4 ⟨want0, rfl, hXwant0, hb4⟩
      have Owant0 := Lib.hid hXwant0; clear hXwant0
      have HB4 := Lib.hid (Below.next HB3.out hb4)
      have hs4 := hb4.size
      have AJ4 := Lib.hid hb4; clear hb4
      go_wp2_with fail
      refine (laws_toReaderS _ lreaders _ ((kR 105 rReader).rd_below Hreaders.out HB4.out) HZreaders.out).mono ?_
      rintro e w5 ⟨xreaders, rfl, hX, hb5⟩
      have Oxreaders := Lib.hid (hX); clear hX
      have HB5 := Lib.hid (Below.next HB4.out hb5)
      have hs5 := hb5.size
      have AJ5 := Lib.hid hb5; clear hb5
      go_wp2_with fail
      refine (laws_toIntSS _ lpairs _ (kRows.rd_below Hpairs.out HB5.out) HZpairs.out).mono ?_
      rintro e w6 ⟨xpairs, rfl, hX, hb6⟩
      have Oxpairs := Lib.hid (hX); clear hX
      have HB6 := Lib.hid (Below.next HB5.out hb6)
      have hs6 := hb6.size
      have AJ6 := Lib.hid hb6; clear hb6
      go_wp2_with fail
      refine (impl_GossipRound _ lreaders _ lpairs _ HZreaders.out ((kR 105 rReader).own_rd (Kind.next (K := (kR 105 rReader).toKind) Oxreaders.out AJ6.out)) HZpairs.out (kRows.own_rd Oxpairs.out)).mono ?_
      rintro e w7 ⟨got0, rfl, hXgot0, hb7⟩
      have Ogot0 := Lib.hid hXgot0; clear hXgot0
      have HB7 := Lib.hid (Below.next HB6.out hb7)
      have hs7 := hb7.size
      have AJ7 := Lib.hid hb7; clear hb7
      go_wp2_with fail
      refine (laws_eqReaderS _ _ _ _ _ ((kR 105 rReader).own_rd Ogot0.out) ((kR 105 rReader).own_rd (Kind.next (K := (kR 105 rReader).toKind) (Kind.next (K := (kR 105 rReader).toKind) (Kind.next (K := (kR 105 rReader).toKind) Owant0.out AJ5.out) AJ6.out) AJ7.out))).mono ?_
      rintro e w8 ⟨rfl, hb8⟩
      rw [decide_eq_true rfl]
      have HB8 := Lib.hid (Below.next HB7.out hb8)
      have hs8 := hb8.size
      have AJ8 := Lib.hid hb8; clear hb8
      go_wp2_with fail
      refine (laws_toReaderS _ lreaders _ ((kR 105 rReader).rd_below Hreaders.out HB8.out) HZreaders.out).mono ?_
      rintro e w9 ⟨yreaders, rfl, hX, hb9⟩
      have Oyreaders := Lib.hid (hX); clear hX
      have HB9 := Lib.hid (Below.next HB8.out hb9)
      have hs9 := hb9.size
      have AJ9 := Lib.hid hb9; clear hb9
      go_wp2_with fail
      refine (laws_eqReaderS _ _ _ _ _ ((kR 105 rReader).own_rd (Kind.next (K := (kR 105 rReader).toKind) (Kind.next (K := (kR 105 rReader).toKind) (Kind.next (K := (kR 105 rReader).toKind) (Kind.next (K := (kR 105 rReader).toKind) Oxreaders.out AJ6.out) AJ7.out) AJ8.out) AJ9.out)) ((kR 105 rReader).own_rd Oyreaders.out)).mono ?_
      rintro e w10 ⟨rfl, hb10⟩
      rw [decide_eq_true rfl]
      have HB10 := Lib.hid (Below.next HB9.out hb10)
      have hs10 := hb10.size
      have AJ10 := Lib.hid hb10; clear hb10
      go_wp2_with fail
      refine (laws_toIntSS _ lpairs _ (kRows.rd_below Hpairs.out HB10.out) HZpairs.out).mono ?_
      rintro e w11 ⟨ypairs, rfl, hX, hb11⟩
      have Oypairs := Lib.hid (hX); clear hX
      have HB11 := Lib.hid (Below.next HB10.out hb11)
      have hs11 := hb11.size
      have AJ11 := Lib.hid hb11; clear hb11
      go_wp2_with fail
      refine (laws_eqIntSS _ _ _ _ _ (kRows.own_rd (Kind.next (K := kRows) (Kind.next (K := kRows) (Kind.next (K := kRows) (Kind.next (K := kRows) (Kind.next (K := kRows) Oxpairs.out AJ7.out) AJ8.out) AJ9.out) AJ10.out) AJ11.out)) (kRows.own_rd Oypairs.out)).mono ?_
      rintro e w12 ⟨rfl, hb12⟩
      rw [decide_eq_true rfl]
      have HB12 := Lib.hid (Below.next HB11.out hb12)
      have hs12 := hb12.size
      have AJ12 := Lib.hid hb12; clear hb12
      go_wp2_with fail
      refine (laws_markReaderS _ _ _ 1 _ _ (Kind.next (K := (kR 105 rReader).toKind) (Kind.next (K := (kR 105 rReader).toKind) (Kind.next (K := (kR 105 rReader).toKind) (Kind.next (K := (kR 105 rReader).toKind) (Kind.next (K := (kR 105 rReader).toKind) (Kind.next (K := (kR 105 rReader).toKind) (Kind.next (K := (kR 105 rReader).toKind) Oxreaders.out AJ6.out) AJ7.out) AJ8.out) AJ9.out) AJ10.out) AJ11.out) AJ12.out) (by have := HZreaders.out; have := cnReaderS_le lreaders; omega) (by omega)).mono ?_
      rintro e w13 ⟨rfl, hX, hG13⟩
      have Oxreadersm := Lib.hid hX; clear hX
      have hs13 := hG13.size
      have HB13 := Lib.hid (HB12.out.trans (hG13.below (B := w.heap.size) (by omega) (by omega)))
      have HG13 := Lib.hid hG13; clear hG13
      go_wp2_with fail
      refine (laws_markIntSS _ _ _ (1 + (cnReaderS lreaders)) _ _ (Kind.kept (K := kRows) (Kind.next (K := kRows) (Kind.next (K := kRows) (Kind.next (K := kRows) (Kind.next (K := kRows) (Kind.next (K := kRows) (Kind.next (K := kRows) Oxpairs.out AJ7.out) AJ8.out) AJ9.out) AJ10.out) AJ11.out) AJ12.out) HG13.out (.inr (by omega))) (by have := HZreaders.out; have := cnReaderS_le lreaders; have := HZpairs.out; omega)).mono ?_
      rintro e w14 ⟨rfl, hX, hG14⟩
      have Oxpairsm := Lib.hid hX; clear hX
      have hs14 := hG14.size
      have HB14 := Lib.hid (HB13.out.trans (hG14.below (B := w.heap.size) (by omega) (by omega)))
      have HG14 := Lib.hid hG14; clear hG14
      go_wp2_with fail
      refine (laws_eqReaderS _ _ _ _ _ ((kR 105 rReader).own_rd (Kind.kept (K := (kR 105 rReader).toKind) (Kind.kept (K := (kR 105 rReader).toKind) (Kind.next (K := (kR 105 rReader).toKind) (Kind.next (K := (kR 105 rReader).toKind) (Kind.next (K := (kR 105 rReader).toKind) (Kind.next (K := (kR 105 rReader).toKind) (Kind.next (K := (kR 105 rReader).toKind) Ogot0.out AJ8.out) AJ9.out) AJ10.out) AJ11.out) AJ12.out) HG13.out (.inr (by omega))) HG14.out (.inr (by omega)))) ((kR 105 rReader).own_rd (Kind.kept (K := (kR 105 rReader).toKind) (Kind.kept (K := (kR 105 rReader).toKind) (Kind.next (K := (kR 105 rReader).toKind) (Kind.next (K := (kR 105 rReader).toKind) (Kind.next (K := (kR 105 rReader).toKind) (Kind.next (K := (kR 105 rReader).toKind) (Kind.next (K := (kR 105 rReader).toKind) (Kind.next (K := (kR 105 rReader).toKind) (Kind.next (K := (kR 105 rReader).toKind) (Kind.next (K := (kR 105 rReader).toKind) Owant0.out AJ5.out) AJ6.out) AJ7.out) AJ8.out) AJ9.out) AJ10.out) AJ11.out) AJ12.out) HG13.out (.inl (by omega))) HG14.out (.inl (by omega))))).mono ?_
      rintro e w15 ⟨rfl, hb15⟩
      rw [decide_eq_true rfl]
      have HB15 := Lib.hid (Below.next HB14.out hb15)
      have hs15 := hb15.size
      have AJ15 := Lib.hid hb15; clear hb15
      have LG0 : Hid (1 + (cnReaderS ((gorL lreaders lpairs))) ≤ 9223372036854775806) := by have := cn_gorL (ps := lpairs) HZreaders.out; unfold Hid; omega
      go_wp2_with fail
      refine (laws_markReaderS _ _ _ 1 _ _ (Kind.next (K := (kR 105 rReader).toKind) (Kind.kept (K := (kR 105 rReader).toKind) (Kind.kept (K := (kR 105 rReader).toKind) (Kind.next (K := (kR 105 rReader).toKind) (Kind.next (K := (kR 105 rReader).toKind) (Kind.next (K := (kR 105 rReader).toKind) (Kind.next (K := (kR 105 rReader).toKind) (Kind.next (K := (kR 105 rReader).toKind) Ogot0.out AJ8.out) AJ9.out) AJ10.out) AJ11.out) AJ12.out) HG13.out (.inr (by omega))) HG14.out (.inr (by omega))) AJ15.out) (by exact LG0.out) (by omega)).mono ?_
      rintro e w16 ⟨rfl, hX, hG16⟩
      have Ogot0m := Lib.hid hX; clear hX
      have hs16 := hG16.size
      have HB16 := Lib.hid (HB15.out.trans (hG16.below (B := w.heap.size) (by omega) (by omega)))
      have HG16 := Lib.hid hG16; clear hG16
      go_wp2_with fail
      refine (laws_heldReaderS _ 1 _ _ ((kR 105 rReader).own_rd Ogot0m.out) (by exact LG0.out)).mono ?_
      rintro e w17 ⟨rfl, hb17⟩
      have HB17 := Lib.hid (Below.next HB16.out hb17)
      have hs17 := hb17.size
      have AJ17 := Lib.hid hb17; clear hb17
      go_wp2_with fail
      refine (laws_toReaderS _ lreaders _ ((kR 105 rReader).rd_below Hreaders.out HB17.out) HZreaders.out).mono ?_
      rintro e w18 ⟨zreaders, rfl, hX, hb18⟩
      have Ozreaders := Lib.hid (hX); clear hX
      have HB18 := Lib.hid (Below.next HB17.out hb18)
      have hs18 := hb18.size
      have AJ18 := Lib.hid hb18; clear hb18
      go_wp2_with fail
      refine (laws_toIntSS _ lpairs _ (kRows.rd_below Hpairs.out HB18.out) HZpairs.out).mono ?_
      rintro e w19 ⟨zpairs, rfl, hX, hb19⟩
      have Ozpairs := Lib.hid (hX); clear hX
      have HB19 := Lib.hid (Below.next HB18.out hb19)
      have hs19 := hb19.size
      have AJ19 := Lib.hid hb19; clear hb19
      go_wp2_with fail
      refine (impl_GossipRound _ lreaders _ lpairs _ HZreaders.out ((kR 105 rReader).own_rd (Kind.next (K := (kR 105 rReader).toKind) Ozreaders.out AJ19.out)) HZpairs.out (kRows.own_rd Ozpairs.out)).mono ?_
      rintro e w20 ⟨again0, rfl, hXagain0, hb20⟩
      have Oagain0 := Lib.hid hXagain0; clear hXagain0
      have HB20 := Lib.hid (Below.next HB19.out hb20)
      have hs20 := hb20.size
      have AJ20 := Lib.hid hb20; clear hb20
      go_wp2_with fail
      refine (laws_eqReaderS _ _ _ _ _ ((kR 105 rReader).own_rd Oagain0.out) ((kR 105 rReader).own_rd (Kind.next (K := (kR 105 rReader).toKind) (Kind.next (K := (kR 105 rReader).toKind) (Kind.next (K := (kR 105 rReader).toKind) (Kind.next (K := (kR 105 rReader).toKind) (Kind.kept (K := (kR 105 rReader).toKind) (Kind.next (K := (kR 105 rReader).toKind) (Kind.kept (K := (kR 105 rReader).toKind) (Kind.kept (K := (kR 105 rReader).toKind) (Kind.next (K := (kR 105 rReader).toKind) (Kind.next (K := (kR 105 rReader).toKind) (Kind.next (K := (kR 105 rReader).toKind) (Kind.next (K := (kR 105 rReader).toKind) (Kind.next (K := (kR 105 rReader).toKind) (Kind.next (K := (kR 105 rReader).toKind) (Kind.next (K := (kR 105 rReader).toKind) (Kind.next (K := (kR 105 rReader).toKind) Owant0.out AJ5.out) AJ6.out) AJ7.out) AJ8.out) AJ9.out) AJ10.out) AJ11.out) AJ12.out) HG13.out (.inl (by omega))) HG14.out (.inl (by omega))) AJ15.out) HG16.out (.inl (by omega))) AJ17.out) AJ18.out) AJ19.out) AJ20.out))).mono ?_
      rintro e w21 ⟨rfl, hb21⟩
      rw [decide_eq_true rfl]
      have HB21 := Lib.hid (Below.next HB20.out hb21)
      have hs21 := hb21.size
      have AJ21 := Lib.hid hb21; clear hb21
      go_wp2_with fail
      refine (laws_heldReaderS _ 1 _ _ ((kR 105 rReader).own_rd (Kind.next (K := (kR 105 rReader).toKind) (Kind.next (K := (kR 105 rReader).toKind) (Kind.next (K := (kR 105 rReader).toKind) (Kind.next (K := (kR 105 rReader).toKind) (Kind.next (K := (kR 105 rReader).toKind) Ogot0m.out AJ17.out) AJ18.out) AJ19.out) AJ20.out) AJ21.out)) (by exact LG0.out)).mono ?_
      rintro e w22 ⟨rfl, hb22⟩
      have HB22 := Lib.hid (Below.next HB21.out hb22)
      have hs22 := hb22.size
      have AJ22 := Lib.hid hb22; clear hb22
      go_wp2_with fail
      go_ret
      exact ⟨rfl, HB22.out⟩
end Go.Proofs.Ytodennbdfloccaa
