/- The walks of laws, by program (genlaw2.py). -/
import Derived.Test.YtlkhkoemfmjloaaSplit2
namespace Go.Proofs.Ytlkhkoemfmjloaa
open Go.RowKit
set_option linter.unusedSimpArgs false
set_option linter.unusedVariables false

set_option maxRecDepth 100000 in
set_option maxHeartbeats 2000000 in
theorem law_SplitRecords (v : Value) (lv : List Int) (w : World) (hv : Ints w v lv) :
    Calls Try.prog 8 #[v] w fun e w' => e = .returned (.bool true) ∧ Below w.heap.size w w' := by
  obtain ⟨adv, nv, cv, rfl⟩ := hv.shape
  have HLv := Lib.hid hv.len
  have Hv := Lib.hid hv; clear hv
  by_cases hnv : 1048576 < (nv : Int)
  · go_enter Try.func8, Try.ntmps8
    go_wp2_with fail
    go_ret
    exact ⟨rfl, Below.refl _ _⟩
  · skip
    go_enter Try.func8, Try.ntmps8
    go_wp2_with fail
    refine (laws_toIntS _ lv _ (Hv.out.below (Below.refl _ _)) (by rw [HLv.out]; omega)).mono ?_
    rintro e w1 ⟨sv, rfl, hX, hb1⟩
    have Osv := Lib.hid (InI.of_own hX); clear hX
    have HB1 := Lib.hid (Below.next (Below.refl _ _) hb1)
    have hs1 := hb1.size
    have AJ1 := Lib.hid hb1; clear hb1
    go_wp2_with fail
    refine (spec_SplitRecords _ lv _ (by rw [HLv.out]; omega) Osv.out.reads).mono ?_
    rintro e w2 ⟨want0, rfl, hXwant0, hb2⟩
    have Owant0 := Lib.hid hXwant0; clear hXwant0
    have HB2 := Lib.hid (Below.next HB1.out hb2)
    have hs2 := hb2.size
    have AJ2 := Lib.hid hb2; clear hb2
    go_wp2_with fail
    refine (laws_toIntS _ lv _ (Hv.out.below HB2.out) (by rw [HLv.out]; omega)).mono ?_
    rintro e w3 ⟨xv, rfl, hX, hb3⟩
    have Oxv := Lib.hid (InI.of_own hX); clear hX
    have HB3 := Lib.hid (Below.next HB2.out hb3)
    have hs3 := hb3.size
    have AJ3 := Lib.hid hb3; clear hb3
    go_wp2_with fail
    refine (impl_SplitRecords _ lv _ (by rw [HLv.out]; omega) Oxv.out.reads).mono ?_
    rintro e w4 ⟨got0, rfl, hXgot0, hb4⟩
    have Ogot0 := Lib.hid hXgot0; clear hXgot0
    have HB4 := Lib.hid (Below.next HB3.out hb4)
    have hs4 := hb4.size
    have AJ4 := Lib.hid hb4; clear hb4
    go_wp2_with fail
    refine (laws_eqIntSS _ _ _ _ _ (kRows.own_rd Ogot0.out) (kRows.own_rd (Kind.next (K := kRows) (Kind.next (K := kRows) Owant0.out AJ3.out) AJ4.out))).mono ?_
    rintro e w5 ⟨rfl, hb5⟩
    rw [decide_eq_true rfl]
    have HB5 := Lib.hid (Below.next HB4.out hb5)
    have hs5 := hb5.size
    have AJ5 := Lib.hid hb5; clear hb5
    go_wp2_with fail
    refine (laws_toIntS _ lv _ (Hv.out.below HB5.out) (by rw [HLv.out]; omega)).mono ?_
    rintro e w6 ⟨yv, rfl, hX, hb6⟩
    have Oyv := Lib.hid (InI.of_own hX); clear hX
    have HB6 := Lib.hid (Below.next HB5.out hb6)
    have hs6 := hb6.size
    have AJ6 := Lib.hid hb6; clear hb6
    go_wp2_with fail
    refine (laws_eqIntS _ _ _ _ _ (((Oxv.out.next AJ4.out).next AJ5.out).next AJ6.out).reads Oyv.out.reads).mono ?_
    rintro e w7 ⟨rfl, m7, hw7⟩
    have hb7 := Below.drewOf hw7; clear hw7
    rw [decide_eq_true rfl]
    have HB7 := Lib.hid (Below.next HB6.out hb7)
    have hs7 := hb7.size
    have AJ7 := Lib.hid hb7; clear hb7
    go_wp2_with fail
    refine (laws_markIntS_in _ _ _ 1 _ _ ((((Oxv.out.next AJ4.out).next AJ5.out).next AJ6.out).next AJ7.out) (by omega) (by have := HLv.out; omega)).mono ?_
    rintro e w8 ⟨rfl, hX, hG8⟩
    have Oxvm := Lib.hid hX; clear hX
    have hs8 := hG8.size
    have HB8 := Lib.hid (HB7.out.trans (hG8.below (B := w.heap.size) (by omega) (by omega)))
    have HG8 := Lib.hid hG8; clear hG8
    go_wp2_with fail
    refine (laws_eqIntSS _ _ _ _ _ (kRows.own_rd (Kind.kept (K := kRows) (Kind.next (K := kRows) (Kind.next (K := kRows) (Kind.next (K := kRows) Ogot0.out AJ5.out) AJ6.out) AJ7.out) HG8.out (.inr (by omega)))) (kRows.own_rd (Kind.kept (K := kRows) (Kind.next (K := kRows) (Kind.next (K := kRows) (Kind.next (K := kRows) (Kind.next (K := kRows) (Kind.next (K := kRows) Owant0.out AJ3.out) AJ4.out) AJ5.out) AJ6.out) AJ7.out) HG8.out (.inl (by omega))))).mono ?_
    rintro e w9 ⟨rfl, hb9⟩
    rw [decide_eq_true rfl]
    have HB9 := Lib.hid (Below.next HB8.out hb9)
    have hs9 := hb9.size
    have AJ9 := Lib.hid hb9; clear hb9
    have LG0 : Hid (1 + (total (splitL lv)) ≤ 9223372036854775806) := by have := splitL_total lv; unfold Hid; omega
    go_wp2_with fail
    refine (laws_markIntSS _ _ _ 1 _ _ (Kind.next (K := kRows) (Kind.kept (K := kRows) (Kind.next (K := kRows) (Kind.next (K := kRows) (Kind.next (K := kRows) Ogot0.out AJ5.out) AJ6.out) AJ7.out) HG8.out (.inr (by omega))) AJ9.out) (by exact LG0.out)).mono ?_
    rintro e w10 ⟨rfl, hX, hG10⟩
    have Ogot0m := Lib.hid hX; clear hX
    have hs10 := hG10.size
    have HB10 := Lib.hid (HB9.out.trans (hG10.below (B := w.heap.size) (by omega) (by omega)))
    have HG10 := Lib.hid hG10; clear hG10
    go_wp2_with fail
    refine (laws_heldIntSS_yes _ 1 _ _ (kRows.own_rd Ogot0m.out) (by exact LG0.out)).mono ?_
    rintro e w11 ⟨rfl, hb11⟩
    have HB11 := Lib.hid (Below.next HB10.out hb11)
    have hs11 := hb11.size
    have AJ11 := Lib.hid hb11; clear hb11
    go_wp2_with fail
    refine (laws_toIntS _ lv _ (Hv.out.below HB11.out) (by rw [HLv.out]; omega)).mono ?_
    rintro e w12 ⟨zv, rfl, hX, hb12⟩
    have Ozv := Lib.hid (InI.of_own hX); clear hX
    have HB12 := Lib.hid (Below.next HB11.out hb12)
    have hs12 := hb12.size
    have AJ12 := Lib.hid hb12; clear hb12
    go_wp2_with fail
    refine (impl_SplitRecords _ lv _ (by rw [HLv.out]; omega) Ozv.out.reads).mono ?_
    rintro e w13 ⟨again0, rfl, hXagain0, hb13⟩
    have Oagain0 := Lib.hid hXagain0; clear hXagain0
    have HB13 := Lib.hid (Below.next HB12.out hb13)
    have hs13 := hb13.size
    have AJ13 := Lib.hid hb13; clear hb13
    go_wp2_with fail
    refine (laws_eqIntSS _ _ _ _ _ (kRows.own_rd Oagain0.out) (kRows.own_rd (Kind.next (K := kRows) (Kind.next (K := kRows) (Kind.next (K := kRows) (Kind.kept (K := kRows) (Kind.next (K := kRows) (Kind.kept (K := kRows) (Kind.next (K := kRows) (Kind.next (K := kRows) (Kind.next (K := kRows) (Kind.next (K := kRows) (Kind.next (K := kRows) Owant0.out AJ3.out) AJ4.out) AJ5.out) AJ6.out) AJ7.out) HG8.out (.inl (by omega))) AJ9.out) HG10.out (.inl (by omega))) AJ11.out) AJ12.out) AJ13.out))).mono ?_
    rintro e w14 ⟨rfl, hb14⟩
    rw [decide_eq_true rfl]
    have HB14 := Lib.hid (Below.next HB13.out hb14)
    have hs14 := hb14.size
    have AJ14 := Lib.hid hb14; clear hb14
    go_wp2_with fail
    refine (laws_heldIntSS_yes _ 1 _ _ (kRows.own_rd (Kind.next (K := kRows) (Kind.next (K := kRows) (Kind.next (K := kRows) (Kind.next (K := kRows) Ogot0m.out AJ11.out) AJ12.out) AJ13.out) AJ14.out)) (by exact LG0.out)).mono ?_
    rintro e w15 ⟨rfl, hb15⟩
    have HB15 := Lib.hid (Below.next HB14.out hb15)
    have hs15 := hb15.size
    have AJ15 := Lib.hid hb15; clear hb15
    go_wp2_with fail
    go_ret
    exact ⟨rfl, HB15.out⟩
end Go.Proofs.Ytlkhkoemfmjloaa
