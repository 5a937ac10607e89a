/- The laws over Merkle trees: their walks, by program (genlaw.py). -/
import Derived.Test.YtocnfoagneaniaaMerkle
namespace Go.Proofs.Ytocnfoagneaniaa
open Go.RowKit
set_option linter.unusedSimpArgs false
set_option linter.unusedVariables false

set_option maxRecDepth 100000 in
set_option maxHeartbeats 2000000 in
theorem law_RootOfFrontier (v : Value) (lv : List Int) (w : World) (hv : Ints w v lv) :
    Calls Try.prog 3 #[v] w fun e w' => e = .returned (.bool true) ∧ Below w.heap.size w w' := by
  obtain ⟨adv, nv, cv, rfl⟩ := hv.shape
  have HLv := Lib.hid hv.len
  have Hv := Lib.hid hv; clear hv
  by_cases hnv : 1048576 < (nv : Int)
  · go_enter Try.func3, Try.ntmps3
    go_wp2_with fail
    go_ret
    exact ⟨rfl, Below.refl _ _⟩
  · skip
    go_enter Try.func3, Try.ntmps3
    go_wp2_with fail
    refine (laws_toIntS _ lv _ (Hv.out.below (Below.refl _ _)) (by rw [HLv.out]; omega)).mono ?_
    rintro e w1 ⟨sv, rfl, hX, hb1⟩
    have Osv := Lib.hid (InI.of_own hX); clear hX
    have HB1 := Lib.hid (Below.next (Below.refl _ _) hb1)
    have hs1 := hb1.size
    have AJ1 := Lib.hid hb1; clear hb1
    go_wp2_with fail
    refine (spec_RootOfFrontier _ lv _ Osv.out.reads).mono ?_
    rintro e w2 ⟨rfl, hb2⟩
    have HB2 := Lib.hid (Below.next HB1.out hb2)
    have hs2 := hb2.size
    have AJ2 := Lib.hid hb2; clear hb2
    go_wp2_with fail
    refine (laws_toIntS _ lv _ (Hv.out.below HB2.out) (by rw [HLv.out]; omega)).mono ?_
    rintro e w3 ⟨xv, rfl, hX, hb3⟩
    have Oxv := Lib.hid (InI.of_own hX); clear hX
    have HB3 := Lib.hid (Below.next HB2.out hb3)
    have hs3 := hb3.size
    have AJ3 := Lib.hid hb3; clear hb3
    go_wp2_with fail
    refine (impl_RootOfFrontier _ lv _ Oxv.out.reads).mono ?_
    rintro e w4 ⟨rfl, hb4⟩
    have HB4 := Lib.hid (Below.next HB3.out hb4)
    have hs4 := hb4.size
    have AJ4 := Lib.hid hb4; clear hb4
    go_wp2_with fail
    refine (laws_toIntS _ lv _ (Hv.out.below HB4.out) (by rw [HLv.out]; omega)).mono ?_
    rintro e w5 ⟨yv, rfl, hX, hb5⟩
    have Oyv := Lib.hid (InI.of_own hX); clear hX
    have HB5 := Lib.hid (Below.next HB4.out hb5)
    have hs5 := hb5.size
    have AJ5 := Lib.hid hb5; clear hb5
    go_wp2_with fail
    refine (laws_eqIntS _ _ _ _ _ ((Oxv.out.next AJ4.out).next AJ5.out).reads Oyv.out.reads).mono ?_
    rintro e w6 ⟨rfl, m6, hw6⟩
    have hb6 := Below.drewOf hw6; clear hw6
    rw [decide_eq_true rfl]
    have HB6 := Lib.hid (Below.next HB5.out hb6)
    have hs6 := hb6.size
    have AJ6 := Lib.hid hb6; clear hb6
    go_wp2_with fail
    go_ret
    exact ⟨rfl, HB6.out⟩
end Go.Proofs.Ytocnfoagneaniaa
