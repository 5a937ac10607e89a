/- The laws over Merkle trees whose result is a list: their walks, by program (genlaw.py). -/
import Derived.Test.YtocnfoagneaniaaMerkle6
namespace Go.Proofs.Ytocnfoagneaniaa
open Go.RowKit
set_option linter.unusedSimpArgs false
set_option linter.unusedVariables false

set_option maxRecDepth 100000 in
set_option maxHeartbeats 2000000 in
theorem law_InclusionPath (v : Value) (lv : List Int) (i : Int) (w : World) (hv : Ints w v lv) (_hi : I64 i) :
    Calls Try.prog 7 #[v, .int .i64 i] w fun e w' => e = .returned (.bool true) ∧ Below w.heap.size w w' := by
  clear _hi
  obtain ⟨adv, nv, cv, rfl⟩ := hv.shape
  have HLv := Lib.hid hv.len
  have Hv := Lib.hid hv; clear hv
  by_cases hnv : 1048576 < (nv : Int)
  · go_enter Try.func7, Try.ntmps7
    go_wp2_with fail
    go_ret
    exact ⟨rfl, Below.refl _ _⟩
  · skip
    go_enter Try.func7, Try.ntmps7
    go_wp2_with fail
    refine (laws_toIntS _ lv _ (Hv.out.below (Below.refl _ _)) (by rw [HLv.out]; omega)).mono ?_
    rintro e w1 ⟨sv, rfl, hX, hb1⟩
    have Osv := Lib.hid (InI.of_own hX); clear hX
    have HB1 := Lib.hid (Below.next (Below.refl _ _) hb1)
    have hs1 := hb1.size
    have AJ1 := Lib.hid hb1; clear hb1
    go_wp2_with fail
    refine (spec_InclusionPath _ lv i _ Osv.out.reads).mono ?_
    rintro e w2 ⟨want, rfl, hX, hb2⟩
    have Owant := Lib.hid hX; clear hX
    have HB2 := Lib.hid (Below.next HB1.out hb2)
    have hs2 := hb2.size
    have AJ2 := Lib.hid hb2; clear hb2
    go_wp2_with fail
    refine (laws_toIntS _ lv _ (Hv.out.below HB2.out) (by rw [HLv.out]; omega)).mono ?_
    rintro e w3 ⟨xv, rfl, hX, hb3⟩
    have Oxv := Lib.hid (InI.of_own hX); clear hX
    have HB3 := Lib.hid (Below.next HB2.out hb3)
    have hs3 := hb3.size
    have AJ3 := Lib.hid hb3; clear hb3
    go_wp2_with fail
    refine (impl_InclusionPath _ lv i _ Oxv.out.reads).mono ?_
    rintro e w4 ⟨got, rfl, hX, hb4⟩
    have Ogot := Lib.hid hX; clear hX
    have HB4 := Lib.hid (Below.next HB3.out hb4)
    have hs4 := hb4.size
    have AJ4 := Lib.hid hb4; clear hb4
    go_wp2_with fail
    refine (laws_eqIntS _ _ _ _ _ Ogot.out.reads ((Owant.out.next AJ3.out).next AJ4.out).reads).mono ?_
    rintro e w5 ⟨rfl, m5, hw5⟩
    have hb5 := Below.drewOf hw5; clear hw5
    rw [decide_eq_true rfl]
    have HB5 := Lib.hid (Below.next HB4.out hb5)
    have hs5 := hb5.size
    have AJ5 := Lib.hid hb5; clear hb5
    go_wp2_with fail
    refine (laws_toIntS _ lv _ (Hv.out.below HB5.out) (by rw [HLv.out]; omega)).mono ?_
    rintro e w6 ⟨yv, rfl, hX, hb6⟩
    have Oyv := Lib.hid (InI.of_own hX); clear hX
    have HB6 := Lib.hid (Below.next HB5.out hb6)
    have hs6 := hb6.size
    have AJ6 := Lib.hid hb6; clear hb6
    go_wp2_with fail
    refine (laws_eqIntS _ _ _ _ _ (((Oxv.out.next AJ4.out).next AJ5.out).next AJ6.out).reads Oyv.out.reads).mono ?_
    rintro e w7 ⟨rfl, m7, hw7⟩
    have hb7 := Below.drewOf hw7; clear hw7
    rw [decide_eq_true rfl]
    have HB7 := Lib.hid (Below.next HB6.out hb7)
    have hs7 := hb7.size
    have AJ7 := Lib.hid hb7; clear hb7
    go_wp2_with fail
    refine (laws_markIntS_in _ _ _ 1 _ _ ((((Oxv.out.next AJ4.out).next AJ5.out).next AJ6.out).next AJ7.out) (by omega) (by have := HLv.out; omega)).mono ?_
    rintro e w8 ⟨rfl, hX, hG8⟩
    have Oxvm := Lib.hid hX; clear hX
    have hs8 := hG8.size
    have HB8 := Lib.hid (HB7.out.trans (hG8.below (B := w.heap.size) (by omega) (by omega)))
    have HG8 := Lib.hid hG8; clear hG8
    have LG : Hid (1 + (incL lv i).length ≤ 9223372036854775806) := by have := incL_length lv i; unfold Hid; omega
    go_wp2_with fail
    refine (laws_eqIntS _ _ _ _ _ ((((Ogot.out.next AJ5.out).next AJ6.out).next AJ7.out).kept HG8.out (.inr (by omega))).reads ((((((Owant.out.next AJ3.out).next AJ4.out).next AJ5.out).next AJ6.out).next AJ7.out).kept HG8.out (.inl (by omega))).reads).mono ?_
    rintro e w9 ⟨rfl, m9, hw9⟩
    have hb9 := Below.drewOf hw9; clear hw9
    rw [decide_eq_true rfl]
    have HB9 := Lib.hid (Below.next HB8.out hb9)
    have hs9 := hb9.size
    have AJ9 := Lib.hid hb9; clear hb9
    go_wp2_with fail
    refine (laws_markIntS_in _ _ _ 1 _ _ (((((Ogot.out.next AJ5.out).next AJ6.out).next AJ7.out).kept HG8.out (.inr (by omega))).next AJ9.out) (by omega) (by exact LG.out)).mono ?_
    rintro e w10 ⟨rfl, hX, hG10⟩
    have Ogotm := Lib.hid hX; clear hX
    have hs10 := hG10.size
    have HB10 := Lib.hid (HB9.out.trans (hG10.below (B := w.heap.size) (by omega) (by omega)))
    have HG10 := Lib.hid hG10; clear hG10
    go_wp2_with fail
    refine (laws_heldIntS_yes _ 1 _ _ Ogotm.out.reads (by simp only [marks_length]; exact LG.out) (fun j hj => nth_marks (by simpa only [marks_length] using hj))).mono ?_
    rintro e w11 ⟨rfl, m11, hw11⟩
    have hb11 := Below.drewOf hw11; clear hw11
    rw [marks_length]
    have HB11 := Lib.hid (Below.next HB10.out hb11)
    have hs11 := hb11.size
    have AJ11 := Lib.hid hb11; clear hb11
    go_wp2_with fail
    refine (laws_toIntS _ lv _ (Hv.out.below HB11.out) (by rw [HLv.out]; omega)).mono ?_
    rintro e w12 ⟨zv, rfl, hX, hb12⟩
    have Ozv := Lib.hid (InI.of_own hX); clear hX
    have HB12 := Lib.hid (Below.next HB11.out hb12)
    have hs12 := hb12.size
    have AJ12 := Lib.hid hb12; clear hb12
    go_wp2_with fail
    refine (impl_InclusionPath _ lv i _ Ozv.out.reads).mono ?_
    rintro e w13 ⟨again, rfl, hX, hb13⟩
    have Oagain := Lib.hid hX; clear hX
    have HB13 := Lib.hid (Below.next HB12.out hb13)
    have hs13 := hb13.size
    have AJ13 := Lib.hid hb13; clear hb13
    go_wp2_with fail
    refine (laws_eqIntS _ _ _ _ _ Oagain.out.reads (((((((((((Owant.out.next AJ3.out).next AJ4.out).next AJ5.out).next AJ6.out).next AJ7.out).kept HG8.out (.inl (by omega))).next AJ9.out).kept HG10.out (.inl (by omega))).next AJ11.out).next AJ12.out).next AJ13.out).reads).mono ?_
    rintro e w14 ⟨rfl, m14, hw14⟩
    have hb14 := Below.drewOf hw14; clear hw14
    rw [decide_eq_true rfl]
    have HB14 := Lib.hid (Below.next HB13.out hb14)
    have hs14 := hb14.size
    have AJ14 := Lib.hid hb14; clear hb14
    go_wp2_with fail
    refine (laws_heldIntS_yes _ 1 _ _ ((((Ogotm.out.next AJ11.out).next AJ12.out).next AJ13.out).next AJ14.out).reads (by simp only [marks_length]; exact LG.out) (fun j hj => nth_marks (by simpa only [marks_length] using hj))).mono ?_
    rintro e w15 ⟨rfl, m15, hw15⟩
    have hb15 := Below.drewOf hw15; clear hw15
    rw [marks_length]
    have HB15 := Lib.hid (Below.next HB14.out hb15)
    have hs15 := hb15.size
    have AJ15 := Lib.hid hb15; clear hb15
    go_wp2_with fail
    go_ret
    exact ⟨rfl, HB15.out⟩
set_option maxRecDepth 100000 in
set_option maxHeartbeats 2000000 in
theorem law_ConsistencyPath (v : Value) (lv : List Int) (i : Int) (w : World) (hv : Ints w v lv) (_hi : I64 i) :
    Calls Try.prog 8 #[v, .int .i64 i] w fun e w' => e = .returned (.bool true) ∧ Below w.heap.size w w' := by
  clear _hi
  obtain ⟨adv, nv, cv, rfl⟩ := hv.shape
  have HLv := Lib.hid hv.len
  have Hv := Lib.hid hv; clear hv
  by_cases hnv : 1048576 < (nv : Int)
  · go_enter Try.func8, Try.ntmps8
    go_wp2_with fail
    go_ret
    exact ⟨rfl, Below.refl _ _⟩
  · skip
    go_enter Try.func8, Try.ntmps8
    go_wp2_with fail
    refine (laws_toIntS _ lv _ (Hv.out.below (Below.refl _ _)) (by rw [HLv.out]; omega)).mono ?_
    rintro e w1 ⟨sv, rfl, hX, hb1⟩
    have Osv := Lib.hid (InI.of_own hX); clear hX
    have HB1 := Lib.hid (Below.next (Below.refl _ _) hb1)
    have hs1 := hb1.size
    have AJ1 := Lib.hid hb1; clear hb1
    go_wp2_with fail
    refine (spec_ConsistencyPath _ lv i _ Osv.out.reads).mono ?_
    rintro e w2 ⟨want, rfl, hX, hb2⟩
    have Owant := Lib.hid hX; clear hX
    have HB2 := Lib.hid (Below.next HB1.out hb2)
    have hs2 := hb2.size
    have AJ2 := Lib.hid hb2; clear hb2
    go_wp2_with fail
    refine (laws_toIntS _ lv _ (Hv.out.below HB2.out) (by rw [HLv.out]; omega)).mono ?_
    rintro e w3 ⟨xv, rfl, hX, hb3⟩
    have Oxv := Lib.hid (InI.of_own hX); clear hX
    have HB3 := Lib.hid (Below.next HB2.out hb3)
    have hs3 := hb3.size
    have AJ3 := Lib.hid hb3; clear hb3
    go_wp2_with fail
    refine (impl_ConsistencyPath _ lv i _ Oxv.out.reads).mono ?_
    rintro e w4 ⟨got, rfl, hX, hb4⟩
    have Ogot := Lib.hid hX; clear hX
    have HB4 := Lib.hid (Below.next HB3.out hb4)
    have hs4 := hb4.size
    have AJ4 := Lib.hid hb4; clear hb4
    go_wp2_with fail
    refine (laws_eqIntS _ _ _ _ _ Ogot.out.reads ((Owant.out.next AJ3.out).next AJ4.out).reads).mono ?_
    rintro e w5 ⟨rfl, m5, hw5⟩
    have hb5 := Below.drewOf hw5; clear hw5
    rw [decide_eq_true rfl]
    have HB5 := Lib.hid (Below.next HB4.out hb5)
    have hs5 := hb5.size
    have AJ5 := Lib.hid hb5; clear hb5
    go_wp2_with fail
    refine (laws_toIntS _ lv _ (Hv.out.below HB5.out) (by rw [HLv.out]; omega)).mono ?_
    rintro e w6 ⟨yv, rfl, hX, hb6⟩
    have Oyv := Lib.hid (InI.of_own hX); clear hX
    have HB6 := Lib.hid (Below.next HB5.out hb6)
    have hs6 := hb6.size
    have AJ6 := Lib.hid hb6; clear hb6
    go_wp2_with fail
    refine (laws_eqIntS _ _ _ _ _ (((Oxv.out.next AJ4.out).next AJ5.out).next AJ6.out).reads Oyv.out.reads).mono ?_
    rintro e w7 ⟨rfl, m7, hw7⟩
    have hb7 := Below.drewOf hw7; clear hw7
    rw [decide_eq_true rfl]
    have HB7 := Lib.hid (Below.next HB6.out hb7)
    have hs7 := hb7.size
    have AJ7 := Lib.hid hb7; clear hb7
    go_wp2_with fail
    refine (laws_markIntS_in _ _ _ 1 _ _ ((((Oxv.out.next AJ4.out).next AJ5.out).next AJ6.out).next AJ7.out) (by omega) (by have := HLv.out; omega)).mono ?_
    rintro e w8 ⟨rfl, hX, hG8⟩
    have Oxvm := Lib.hid hX; clear hX
    have hs8 := hG8.size
    have HB8 := Lib.hid (HB7.out.trans (hG8.below (B := w.heap.size) (by omega) (by omega)))
    have HG8 := Lib.hid hG8; clear hG8
    have LG : Hid (1 + (conL lv i).length ≤ 9223372036854775806) := by have := conL_length lv i; unfold Hid; omega
    go_wp2_with fail
    refine (laws_eqIntS _ _ _ _ _ ((((Ogot.out.next AJ5.out).next AJ6.out).next AJ7.out).kept HG8.out (.inr (by omega))).reads ((((((Owant.out.next AJ3.out).next AJ4.out).next AJ5.out).next AJ6.out).next AJ7.out).kept HG8.out (.inl (by omega))).reads).mono ?_
    rintro e w9 ⟨rfl, m9, hw9⟩
    have hb9 := Below.drewOf hw9; clear hw9
    rw [decide_eq_true rfl]
    have HB9 := Lib.hid (Below.next HB8.out hb9)
    have hs9 := hb9.size
    have AJ9 := Lib.hid hb9; clear hb9
    go_wp2_with fail
    refine (laws_markIntS_in _ _ _ 1 _ _ (((((Ogot.out.next AJ5.out).next AJ6.out).next AJ7.out).kept HG8.out (.inr (by omega))).next AJ9.out) (by omega) (by exact LG.out)).mono ?_
    rintro e w10 ⟨rfl, hX, hG10⟩
    have Ogotm := Lib.hid hX; clear hX
    have hs10 := hG10.size
    have HB10 := Lib.hid (HB9.out.trans (hG10.below (B := w.heap.size) (by omega) (by omega)))
    have HG10 := Lib.hid hG10; clear hG10
    go_wp2_with fail
    refine (laws_heldIntS_yes _ 1 _ _ Ogotm.out.reads (by simp only [marks_length]; exact LG.out) (fun j hj => nth_marks (by simpa only [marks_length] using hj))).mono ?_
    rintro e w11 ⟨rfl, m11, hw11⟩
    have hb11 := Below.drewOf hw11; clear hw11
    rw [marks_length]
    have HB11 := Lib.hid (Below.next HB10.out hb11)
    have hs11 := hb11.size
    have AJ11 := Lib.hid hb11; clear hb11
    go_wp2_with fail
    refine (laws_toIntS _ lv _ (Hv.out.below HB11.out) (by rw [HLv.out]; omega)).mono ?_
    rintro e w12 ⟨zv, rfl, hX, hb12⟩
    have Ozv := Lib.hid (InI.of_own hX); clear hX
    have HB12 := Lib.hid (Below.next HB11.out hb12)
    have hs12 := hb12.size
    have AJ12 := Lib.hid hb12; clear hb12
    go_wp2_with fail
    refine (impl_ConsistencyPath _ lv i _ Ozv.out.reads).mono ?_
    rintro e w13 ⟨again, rfl, hX, hb13⟩
    have Oagain := Lib.hid hX; clear hX
    have HB13 := Lib.hid (Below.next HB12.out hb13)
    have hs13 := hb13.size
    have AJ13 := Lib.hid hb13; clear hb13
    go_wp2_with fail
    refine (laws_eqIntS _ _ _ _ _ Oagain.out.reads (((((((((((Owant.out.next AJ3.out).next AJ4.out).next AJ5.out).next AJ6.out).next AJ7.out).kept HG8.out (.inl (by omega))).next AJ9.out).kept HG10.out (.inl (by omega))).next AJ11.out).next AJ12.out).next AJ13.out).reads).mono ?_
    rintro e w14 ⟨rfl, m14, hw14⟩
    have hb14 := Below.drewOf hw14; clear hw14
    rw [decide_eq_true rfl]
    have HB14 := Lib.hid (Below.next HB13.out hb14)
    have hs14 := hb14.size
    have AJ14 := Lib.hid hb14; clear hb14
    go_wp2_with fail
    refine (laws_heldIntS_yes _ 1 _ _ ((((Ogotm.out.next AJ11.out).next AJ12.out).next AJ13.out).next AJ14.out).reads (by simp only [marks_length]; exact LG.out) (fun j hj => nth_marks (by simpa only [marks_length] using hj))).mono ?_
    rintro e w15 ⟨rfl, m15, hw15⟩
    have hb15 := Below.drewOf hw15; clear hw15
    rw [marks_length]
    have HB15 := Lib.hid (Below.next HB14.out hb15)
    have hs15 := hb15.size
    have AJ15 := Lib.hid hb15; clear hb15
    go_wp2_with fail
    go_ret
    exact ⟨rfl, HB15.out⟩
set_option maxRecDepth 100000 in
set_option maxHeartbeats 2000000 in
theorem law_VerifyConsistency (m : Int) (n : Int) (x : Int) (y : Int) (v : Value) (lv : List Int) (w : World) (_hm : I64 m) (_hn : I64 n) (_hx : I64 x) (_hy : I64 y) (hv : Ints w v lv) :
    Calls Try.prog 5 #[.int .i64 m, .int .i64 n, .int .i64 x, .int .i64 y, v] w fun e w' => e = .returned (.bool true) ∧ Below w.heap.size w w' := by
  clear _hm
  clear _hn
  have Jx := Lib.hid _hx; clear _hx
  have Jy := Lib.hid _hy; clear _hy
  obtain ⟨adv, nv, cv, rfl⟩ := hv.shape
  have HLv := Lib.hid hv.len
  have Hv := Lib.hid hv; clear hv
  by_cases hnv : 1048576 < (nv : Int)
  · go_enter Try.func5, Try.ntmps5
    go_wp2_with fail
    go_ret
    exact ⟨rfl, Below.refl _ _⟩
  · skip
    go_enter Try.func5, Try.ntmps5
    go_wp2_with fail
    refine (laws_toIntS _ lv _ (Hv.out.below (Below.refl _ _)) (by rw [HLv.out]; omega)).mono ?_
    rintro e w1 ⟨sv, rfl, hX, hb1⟩
    have Osv := Lib.hid (InI.of_own hX); clear hX
    have HB1 := Lib.hid (Below.next (Below.refl _ _) hb1)
    have hs1 := hb1.size
    have AJ1 := Lib.hid hb1; clear hb1
    go_wp2_with fail
    refine (spec_VerifyConsistency m n x y _ lv _ Jx.out Jy.out Osv.out.reads).mono ?_
    rintro e w2 ⟨rfl, hb2⟩
    have HB2 := Lib.hid (Below.next HB1.out hb2)
    have hs2 := hb2.size
    have AJ2 := Lib.hid hb2; clear hb2
    go_wp2_with fail
    refine (laws_toIntS _ lv _ (Hv.out.below HB2.out) (by rw [HLv.out]; omega)).mono ?_
    rintro e w3 ⟨xv, rfl, hX, hb3⟩
    have Oxv := Lib.hid (InI.of_own hX); clear hX
    have HB3 := Lib.hid (Below.next HB2.out hb3)
    have hs3 := hb3.size
    have AJ3 := Lib.hid hb3; clear hb3
    go_wp2_with fail
    refine (impl_VerifyConsistency m n x y _ lv _ Jx.out Jy.out Oxv.out.reads).mono ?_
    rintro e w4 ⟨rfl, hb4⟩
    have HB4 := Lib.hid (Below.next HB3.out hb4)
    have hs4 := hb4.size
    have AJ4 := Lib.hid hb4; clear hb4
    go_wp2_with fail
    refine (laws_toIntS _ lv _ (Hv.out.below HB4.out) (by rw [HLv.out]; omega)).mono ?_
    rintro e w5 ⟨yv, rfl, hX, hb5⟩
    have Oyv := Lib.hid (InI.of_own hX); clear hX
    have HB5 := Lib.hid (Below.next HB4.out hb5)
    have hs5 := hb5.size
    have AJ5 := Lib.hid hb5; clear hb5
    go_wp2_with fail
    refine (laws_eqIntS _ _ _ _ _ ((Oxv.out.next AJ4.out).next AJ5.out).reads Oyv.out.reads).mono ?_
    rintro e w6 ⟨rfl, m6, hw6⟩
    have hb6 := Below.drewOf hw6; clear hw6
    rw [decide_eq_true rfl]
    have HB6 := Lib.hid (Below.next HB5.out hb6)
    have hs6 := hb6.size
    have AJ6 := Lib.hid hb6; clear hb6
    go_wp2_with fail
    go_ret
    exact ⟨rfl, HB6.out⟩
set_option maxRecDepth 100000 in
set_option maxHeartbeats 2000000 in
theorem law_FrontierOf (v : Value) (lv : List Int) (w : World) (hv : Ints w v lv) :
    Calls Try.prog 6 #[v] w fun e w' => e = .returned (.bool true) ∧ Below w.heap.size w w' := by
  obtain ⟨adv, nv, cv, rfl⟩ := hv.shape
  have HLv := Lib.hid hv.len
  have Hv := Lib.hid hv; clear hv
  by_cases hnv : 1048576 < (nv : Int)
  · go_enter Try.func6, Try.ntmps6
    go_wp2_with fail
    go_ret
    exact ⟨rfl, Below.refl _ _⟩
  · skip
    go_enter Try.func6, Try.ntmps6
    go_wp2_with fail
    refine (laws_toIntS _ lv _ (Hv.out.below (Below.refl _ _)) (by rw [HLv.out]; omega)).mono ?_
    rintro e w1 ⟨sv, rfl, hX, hb1⟩
    have Osv := Lib.hid (InI.of_own hX); clear hX
    have HB1 := Lib.hid (Below.next (Below.refl _ _) hb1)
    have hs1 := hb1.size
    have AJ1 := Lib.hid hb1; clear hb1
    go_wp2_with fail
    refine (spec_FrontierOf _ lv _ Osv.out.reads).mono ?_
    rintro e w2 ⟨want, rfl, hX, hb2⟩
    have Owant := Lib.hid hX; clear hX
    have HB2 := Lib.hid (Below.next HB1.out hb2)
    have hs2 := hb2.size
    have AJ2 := Lib.hid hb2; clear hb2
    go_wp2_with fail
    refine (laws_toIntS _ lv _ (Hv.out.below HB2.out) (by rw [HLv.out]; omega)).mono ?_
    rintro e w3 ⟨xv, rfl, hX, hb3⟩
    have Oxv := Lib.hid (InI.of_own hX); clear hX
    have HB3 := Lib.hid (Below.next HB2.out hb3)
    have hs3 := hb3.size
    have AJ3 := Lib.hid hb3; clear hb3
    go_wp2_with fail
    refine (impl_FrontierOf _ lv _ Oxv.out.reads).mono ?_
    rintro e w4 ⟨got, rfl, hX, hb4⟩
    have Ogot := Lib.hid hX; clear hX
    have HB4 := Lib.hid (Below.next HB3.out hb4)
    have hs4 := hb4.size
    have AJ4 := Lib.hid hb4; clear hb4
    go_wp2_with fail
    refine (laws_eqIntS _ _ _ _ _ Ogot.out.reads ((Owant.out.next AJ3.out).next AJ4.out).reads).mono ?_
    rintro e w5 ⟨rfl, m5, hw5⟩
    have hb5 := Below.drewOf hw5; clear hw5
    rw [decide_eq_true rfl]
    have HB5 := Lib.hid (Below.next HB4.out hb5)
    have hs5 := hb5.size
    have AJ5 := Lib.hid hb5; clear hb5
    go_wp2_with fail
    refine (laws_toIntS _ lv _ (Hv.out.below HB5.out) (by rw [HLv.out]; omega)).mono ?_
    rintro e w6 ⟨yv, rfl, hX, hb6⟩
    have Oyv := Lib.hid (InI.of_own hX); clear hX
    have HB6 := Lib.hid (Below.next HB5.out hb6)
    have hs6 := hb6.size
    have AJ6 := Lib.hid hb6; clear hb6
    go_wp2_with fail
    refine (laws_eqIntS _ _ _ _ _ (((Oxv.out.next AJ4.out).next AJ5.out).next AJ6.out).reads Oyv.out.reads).mono ?_
    rintro e w7 ⟨rfl, m7, hw7⟩
    have hb7 := Below.drewOf hw7; clear hw7
    rw [decide_eq_true rfl]
    have HB7 := Lib.hid (Below.next HB6.out hb7)
    have hs7 := hb7.size
    have AJ7 := Lib.hid hb7; clear hb7
    go_wp2_with fail
    refine (laws_markIntS_in _ _ _ 1 _ _ ((((Oxv.out.next AJ4.out).next AJ5.out).next AJ6.out).next AJ7.out) (by omega) (by have := HLv.out; omega)).mono ?_
    rintro e w8 ⟨rfl, hX, hG8⟩
    have Oxvm := Lib.hid hX; clear hX
    have hs8 := hG8.size
    have HB8 := Lib.hid (HB7.out.trans (hG8.below (B := w.heap.size) (by omega) (by omega)))
    have HG8 := Lib.hid hG8; clear hG8
    have LG : Hid (1 + (foL lv).length ≤ 9223372036854775806) := by have := foL_length lv; unfold Hid; omega
    go_wp2_with fail
    refine (laws_eqIntS _ _ _ _ _ ((((Ogot.out.next AJ5.out).next AJ6.out).next AJ7.out).kept HG8.out (.inr (by omega))).reads ((((((Owant.out.next AJ3.out).next AJ4.out).next AJ5.out).next AJ6.out).next AJ7.out).kept HG8.out (.inl (by omega))).reads).mono ?_
    rintro e w9 ⟨rfl, m9, hw9⟩
    have hb9 := Below.drewOf hw9; clear hw9
    rw [decide_eq_true rfl]
    have HB9 := Lib.hid (Below.next HB8.out hb9)
    have hs9 := hb9.size
    have AJ9 := Lib.hid hb9; clear hb9
    go_wp2_with fail
    refine (laws_markIntS_in _ _ _ 1 _ _ (((((Ogot.out.next AJ5.out).next AJ6.out).next AJ7.out).kept HG8.out (.inr (by omega))).next AJ9.out) (by omega) (by exact LG.out)).mono ?_
    rintro e w10 ⟨rfl, hX, hG10⟩
    have Ogotm := Lib.hid hX; clear hX
    have hs10 := hG10.size
    have HB10 := Lib.hid (HB9.out.trans (hG10.below (B := w.heap.size) (by omega) (by omega)))
    have HG10 := Lib.hid hG10; clear hG10
    go_wp2_with fail
    refine (laws_heldIntS_yes _ 1 _ _ Ogotm.out.reads (by simp only [marks_length]; exact LG.out) (fun j hj => nth_marks (by simpa only [marks_length] using hj))).mono ?_
    rintro e w11 ⟨rfl, m11, hw11⟩
    have hb11 := Below.drewOf hw11; clear hw11
    rw [marks_length]
    have HB11 := Lib.hid (Below.next HB10.out hb11)
    have hs11 := hb11.size
    have AJ11 := Lib.hid hb11; clear hb11
    go_wp2_with fail
    refine (laws_toIntS _ lv _ (Hv.out.below HB11.out) (by rw [HLv.out]; omega)).mono ?_
    rintro e w12 ⟨zv, rfl, hX, hb12⟩
    have Ozv := Lib.hid (InI.of_own hX); clear hX
    have HB12 := Lib.hid (Below.next HB11.out hb12)
    have hs12 := hb12.size
    have AJ12 := Lib.hid hb12; clear hb12
    go_wp2_with fail
    refine (impl_FrontierOf _ lv _ Ozv.out.reads).mono ?_
    rintro e w13 ⟨again, rfl, hX, hb13⟩
    have Oagain := Lib.hid hX; clear hX
    have HB13 := Lib.hid (Below.next HB12.out hb13)
    have hs13 := hb13.size
    have AJ13 := Lib.hid hb13; clear hb13
    go_wp2_with fail
    refine (laws_eqIntS _ _ _ _ _ Oagain.out.reads (((((((((((Owant.out.next AJ3.out).next AJ4.out).next AJ5.out).next AJ6.out).next AJ7.out).kept HG8.out (.inl (by omega))).next AJ9.out).kept HG10.out (.inl (by omega))).next AJ11.out).next AJ12.out).next AJ13.out).reads).mono ?_
    rintro e w14 ⟨rfl, m14, hw14⟩
    have hb14 := Below.drewOf hw14; clear hw14
    rw [decide_eq_true rfl]
    have HB14 := Lib.hid (Below.next HB13.out hb14)
    have hs14 := hb14.size
    have AJ14 := Lib.hid hb14; clear hb14
    go_wp2_with fail
    refine (laws_heldIntS_yes _ 1 _ _ ((((Ogotm.out.next AJ11.out).next AJ12.out).next AJ13.out).next AJ14.out).reads (by simp only [marks_length]; exact LG.out) (fun j hj => nth_marks (by simpa only [marks_length] using hj))).mono ?_
    rintro e w15 ⟨rfl, m15, hw15⟩
    have hb15 := Below.drewOf hw15; clear hw15
    rw [marks_length]
    have HB15 := Lib.hid (Below.next HB14.out hb15)
    have hs15 := hb15.size
    have AJ15 := Lib.hid hb15; clear hb15
    go_wp2_with fail
    go_ret
    exact ⟨rfl, HB15.out⟩
set_option maxRecDepth 100000 in
set_option maxHeartbeats 2000000 in
theorem law_PushLeaf (n : Int) (v : Value) (lv : List Int) (x : Int) (w : World) (_hn : I64 n) (hv : Ints w v lv) (_hx : I64 x) :
    Calls Try.prog 4 #[.int .i64 n, v, .int .i64 x] w fun e w' => e = .returned (.bool true) ∧ Below w.heap.size w w' := by
  clear _hn
  clear _hx
  obtain ⟨adv, nv, cv, rfl⟩ := hv.shape
  have HLv := Lib.hid hv.len
  have Hv := Lib.hid hv; clear hv
  by_cases hnv : 1048576 < (nv : Int)
  · go_enter Try.func4, Try.ntmps4
    go_wp2_with fail
    go_ret
    exact ⟨rfl, Below.refl _ _⟩
  · skip
    go_enter Try.func4, Try.ntmps4
    go_wp2_with fail
    refine (laws_toIntS _ lv _ (Hv.out.below (Below.refl _ _)) (by rw [HLv.out]; omega)).mono ?_
    rintro e w1 ⟨sv, rfl, hX, hb1⟩
    have Osv := Lib.hid (InI.of_own hX); clear hX
    have HB1 := Lib.hid (Below.next (Below.refl _ _) hb1)
    have hs1 := hb1.size
    have AJ1 := Lib.hid hb1; clear hb1
    go_wp2_with fail
    refine (spec_PushLeaf n _ lv x _ Osv.out.reads).mono ?_
    rintro e w2 ⟨want, rfl, hX, hb2⟩
    have Owant := Lib.hid hX; clear hX
    have HB2 := Lib.hid (Below.next HB1.out hb2)
    have hs2 := hb2.size
    have AJ2 := Lib.hid hb2; clear hb2
    go_wp2_with fail
    refine (laws_toIntS _ lv _ (Hv.out.below HB2.out) (by rw [HLv.out]; omega)).mono ?_
    rintro e w3 ⟨xv, rfl, hX, hb3⟩
    have Oxv := Lib.hid (InI.of_own hX); clear hX
    have HB3 := Lib.hid (Below.next HB2.out hb3)
    have hs3 := hb3.size
    have AJ3 := Lib.hid hb3; clear hb3
    go_wp2_with fail
    refine (impl_PushLeaf n _ lv x _ Oxv.out.reads).mono ?_
    rintro e w4 ⟨got, rfl, hX, hb4⟩
    have Ogot := Lib.hid hX; clear hX
    have HB4 := Lib.hid (Below.next HB3.out hb4)
    have hs4 := hb4.size
    have AJ4 := Lib.hid hb4; clear hb4
    go_wp2_with fail
    refine (laws_eqIntS _ _ _ _ _ Ogot.out.reads ((Owant.out.next AJ3.out).next AJ4.out).reads).mono ?_
    rintro e w5 ⟨rfl, m5, hw5⟩
    have hb5 := Below.drewOf hw5; clear hw5
    rw [decide_eq_true rfl]
    have HB5 := Lib.hid (Below.next HB4.out hb5)
    have hs5 := hb5.size
    have AJ5 := Lib.hid hb5; clear hb5
    go_wp2_with fail
    refine (laws_toIntS _ lv _ (Hv.out.below HB5.out) (by rw [HLv.out]; omega)).mono ?_
    rintro e w6 ⟨yv, rfl, hX, hb6⟩
    have Oyv := Lib.hid (InI.of_own hX); clear hX
    have HB6 := Lib.hid (Below.next HB5.out hb6)
    have hs6 := hb6.size
    have AJ6 := Lib.hid hb6; clear hb6
    go_wp2_with fail
    refine (laws_eqIntS _ _ _ _ _ (((Oxv.out.next AJ4.out).next AJ5.out).next AJ6.out).reads Oyv.out.reads).mono ?_
    rintro e w7 ⟨rfl, m7, hw7⟩
    have hb7 := Below.drewOf hw7; clear hw7
    rw [decide_eq_true rfl]
    have HB7 := Lib.hid (Below.next HB6.out hb7)
    have hs7 := hb7.size
    have AJ7 := Lib.hid hb7; clear hb7
    go_wp2_with fail
    refine (laws_markIntS_in _ _ _ 1 _ _ ((((Oxv.out.next AJ4.out).next AJ5.out).next AJ6.out).next AJ7.out) (by omega) (by have := HLv.out; omega)).mono ?_
    rintro e w8 ⟨rfl, hX, hG8⟩
    have Oxvm := Lib.hid hX; clear hX
    have hs8 := hG8.size
    have HB8 := Lib.hid (HB7.out.trans (hG8.below (B := w.heap.size) (by omega) (by omega)))
    have HG8 := Lib.hid hG8; clear hG8
    have LG : Hid (1 + (psL n lv x).length ≤ 9223372036854775806) := by have := psL_length n lv x; unfold Hid; omega
    go_wp2_with fail
    refine (laws_eqIntS _ _ _ _ _ ((((Ogot.out.next AJ5.out).next AJ6.out).next AJ7.out).kept HG8.out (.inr (by omega))).reads ((((((Owant.out.next AJ3.out).next AJ4.out).next AJ5.out).next AJ6.out).next AJ7.out).kept HG8.out (.inl (by omega))).reads).mono ?_
    rintro e w9 ⟨rfl, m9, hw9⟩
    have hb9 := Below.drewOf hw9; clear hw9
    rw [decide_eq_true rfl]
    have HB9 := Lib.hid (Below.next HB8.out hb9)
    have hs9 := hb9.size
    have AJ9 := Lib.hid hb9; clear hb9
    go_wp2_with fail
    refine (laws_markIntS_in _ _ _ 1 _ _ (((((Ogot.out.next AJ5.out).next AJ6.out).next AJ7.out).kept HG8.out (.inr (by omega))).next AJ9.out) (by omega) (by exact LG.out)).mono ?_
    rintro e w10 ⟨rfl, hX, hG10⟩
    have Ogotm := Lib.hid hX; clear hX
    have hs10 := hG10.size
    have HB10 := Lib.hid (HB9.out.trans (hG10.below (B := w.heap.size) (by omega) (by omega)))
    have HG10 := Lib.hid hG10; clear hG10
    go_wp2_with fail
    refine (laws_heldIntS_yes _ 1 _ _ Ogotm.out.reads (by simp only [marks_length]; exact LG.out) (fun j hj => nth_marks (by simpa only [marks_length] using hj))).mono ?_
    rintro e w11 ⟨rfl, m11, hw11⟩
    have hb11 := Below.drewOf hw11; clear hw11
    rw [marks_length]
    have HB11 := Lib.hid (Below.next HB10.out hb11)
    have hs11 := hb11.size
    have AJ11 := Lib.hid hb11; clear hb11
    go_wp2_with fail
    refine (laws_toIntS _ lv _ (Hv.out.below HB11.out) (by rw [HLv.out]; omega)).mono ?_
    rintro e w12 ⟨zv, rfl, hX, hb12⟩
    have Ozv := Lib.hid (InI.of_own hX); clear hX
    have HB12 := Lib.hid (Below.next HB11.out hb12)
    have hs12 := hb12.size
    have AJ12 := Lib.hid hb12; clear hb12
    go_wp2_with fail
    refine (impl_PushLeaf n _ lv x _ Ozv.out.reads).mono ?_
    rintro e w13 ⟨again, rfl, hX, hb13⟩
    have Oagain := Lib.hid hX; clear hX
    have HB13 := Lib.hid (Below.next HB12.out hb13)
    have hs13 := hb13.size
    have AJ13 := Lib.hid hb13; clear hb13
    go_wp2_with fail
    refine (laws_eqIntS _ _ _ _ _ Oagain.out.reads (((((((((((Owant.out.next AJ3.out).next AJ4.out).next AJ5.out).next AJ6.out).next AJ7.out).kept HG8.out (.inl (by omega))).next AJ9.out).kept HG10.out (.inl (by omega))).next AJ11.out).next AJ12.out).next AJ13.out).reads).mono ?_
    rintro e w14 ⟨rfl, m14, hw14⟩
    have hb14 := Below.drewOf hw14; clear hw14
    rw [decide_eq_true rfl]
    have HB14 := Lib.hid (Below.next HB13.out hb14)
    have hs14 := hb14.size
    have AJ14 := Lib.hid hb14; clear hb14
    go_wp2_with fail
    refine (laws_heldIntS_yes _ 1 _ _ ((((Ogotm.out.next AJ11.out).next AJ12.out).next AJ13.out).next AJ14.out).reads (by simp only [marks_length]; exact LG.out) (fun j hj => nth_marks (by simpa only [marks_length] using hj))).mono ?_
    rintro e w15 ⟨rfl, m15, hw15⟩
    have hb15 := Below.drewOf hw15; clear hw15
    rw [marks_length]
    have HB15 := Lib.hid (Below.next HB14.out hb15)
    have hs15 := hb15.size
    have AJ15 := Lib.hid hb15; clear hb15
    go_wp2_with fail
    go_ret
    exact ⟨rfl, HB15.out⟩
end Go.Proofs.Ytocnfoagneaniaa
