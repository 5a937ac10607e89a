/- Walks: copies of heads. -/
import Derived.Test.YtodennbdfloccaaGreatMerge1
namespace Go.Proofs.YtodennbdfloccaaGreat
open Go.RowKit
set_option linter.unusedSimpArgs false
set_option linter.unusedVariables false

set_option maxHeartbeats 4000000 in
theorem impl_copyHead (v : Value) (d : HeadD) (w : World) (hl : (szHead d : Int) ≤ 1000000000) (h : (kS rHead).rd w v d) :
    Calls Tryz.prog 93 #[v] w fun e w' => ∃ v', e = .returned v' ∧ (kS rHead).own w' w.heap.size w'.heap.size v' d ∧ Below w.heap.size w w' := by
  unfold szHead at hl
  have HL := Lib.hid hl; clear hl
  obtain ⟨a3, n3, c3, a4, n4, c4, a5, n5, c5, rfl, i0, i1, i2, h3, h4, h5⟩ := rdHead.1 h
  have J0 := Lib.hid i0; have J1 := Lib.hid i1; have J2 := Lib.hid i2
  obtain ⟨W, hW⟩ : ∃ W, W = (w.alloc (.cells #[.int .i64 d.author, .int .i64 d.size, .int .i64 d.root, .slice a3 n3 c3, .slice a4 n4 c4, .slice a5 n5 c5] 44)).alloc (.cells #[.int .i64 0, .int .i64 0, .int .i64 0, .slice none 0 0, .slice none 0 0, .slice none 0 0] 44) := ⟨_, rfl⟩
  have HWB : Hid (Below w.heap.size w W) := by unfold Hid; rw [hW]; (repeat (first | exact Below.refl _ _ | assumption | refine Below.drew ?_ | refine Below.alloc ?_ (by first | (simp; done) | (simp; omega)) _ | refine Below.setCell ?_ (by first | (simp; done) | (simp; omega)) _))
  have hs0 : W.heap.size = w.heap.size + 2 := by rw [hW]; simp
  have hs1 : (w.alloc (.cells #[.int .i64 d.author, .int .i64 d.size, .int .i64 d.root, .slice a3 n3 c3, .slice a4 n4 c4, .slice a5 n5 c5] 44)).heap.size = w.heap.size + 1 := by simp
  have BX : Hid (BoxN W w.heap.size 44 [.int .i64 d.author, .int .i64 d.size, .int .i64 d.root, .slice a3 n3 c3, .slice a4 n4 c4, .slice a5 n5 c5]) := by unfold Hid; rw [hW]; exact (BoxN.new w [.int .i64 d.author, .int .i64 d.size, .int .i64 d.root, .slice a3 n3 c3, .slice a4 n4 c4, .slice a5 n5 c5] _).alloc _
  have BR : Hid (BoxN W (w.heap.size + 1) 44 [.int .i64 0, .int .i64 0, .int .i64 0, .slice none 0 0, .slice none 0 0, .slice none 0 0]) := by unfold Hid; rw [hW, ← hs1]; exact BoxN.new _ [.int .i64 0, .int .i64 0, .int .i64 0, .slice none 0 0, .slice none 0 0, .slice none 0 0] _
  have HP : Hid ((kS rProof).rd W (.agg #[.slice a3 n3 c3, .slice a4 n4 c4, .slice a5 n5 c5]) d.sign) := (kS rProof).rd_below (rdProof.2 ⟨_, _, _, _, _, _, _, _, _, rfl, h3, h4, h5⟩) HWB.out
  clear h h3 h4 h5 i0 i1 i2 hs1
  go_enter Tryz.func93, Tryz.ntmps93
  go_wp2_with fail
  rw [← hW]
  clear hW
  refine (impl_copyProof _ d.sign _ HL.out HP.out).mono ?_
  rintro e w1 ⟨v', rfl, X, hb⟩
  obtain ⟨_, rfl, X⟩ := X
  obtain ⟨_, _, rfl, k3, ⟨_, _, rfl, k4, ⟨_, _, rfl, k5, rfl⟩⟩⟩ := rProof.own_rd X
  obtain ⟨x3, y3, z3, rfl⟩ := sInts.sl k3
  obtain ⟨x4, y4, z4, rfl⟩ := sInts.sl k4
  obtain ⟨x5, y5, z5, rfl⟩ := sInts.sl k5
  clear k3 k4 k5
  have O := Lib.hid X; clear X
  have us1 := hb.size
  have HB1 := Lib.hid (HWB.out.trans (hb.mono HWB.out.size))
  have BX1 := Lib.hid (BX.out.below hb)
  have BR1 := Lib.hid (BR.out.below hb)
  clear hb
  have px0 := BX1.out.cell (i := 0) rfl
  have px1 := BX1.out.cell (i := 1) rfl
  have px2 := BX1.out.cell (i := 2) rfl
  have px3 := BX1.out.cell (i := 3) rfl
  have px4 := BX1.out.cell (i := 4) rfl
  have px5 := BX1.out.cell (i := 5) rfl
  have pr0 := BR1.out.cell (i := 0) rfl
  have pr1 := BR1.out.cell (i := 1) rfl
  have pr2 := BR1.out.cell (i := 2) rfl
  have pr3 := BR1.out.cell (i := 3) rfl
  have pr4 := BR1.out.cell (i := 4) rfl
  have pr5 := BR1.out.cell (i := 5) rfl
  have fx := BX1.out.frozen
  have fr := BR1.out.frozen
  go_wp2_with fail
  obtain ⟨V, hV⟩ : ∃ V, V = ((((((((w1.setCell ⟨w.heap.size, 3, none⟩ (.slice x3 y3 z3)).setCell ⟨w.heap.size, 4, none⟩ (.slice x4 y4 z4)).setCell ⟨w.heap.size, 5, none⟩ (.slice x5 y5 z5)).setCell ⟨w.heap.size + 1, 0, none⟩ (.int .i64 d.author)).setCell ⟨w.heap.size + 1, 1, none⟩ (.int .i64 d.size)).setCell ⟨w.heap.size + 1, 2, none⟩ (.int .i64 d.root)).setCell ⟨w.heap.size + 1, 3, none⟩ (.slice x3 y3 z3)).setCell ⟨w.heap.size + 1, 4, none⟩ (.slice x4 y4 z4)).setCell ⟨w.heap.size + 1, 5, none⟩ (.slice x5 y5 z5) := ⟨_, rfl⟩
  rw [← hV]
  have hwi : Within w.heap.size (w.heap.size + 2) w1 V := by
    rw [hV]
    exact ((((((((Within.refl _ _ _ |>.setCell (by omega) (by omega) _ _) |>.setCell (by omega) (by omega) _ _) |>.setCell (by omega) (by omega) _ _) |>.setCell (by omega) (by omega) _ _) |>.setCell (by omega) (by omega) _ _) |>.setCell (by omega) (by omega) _ _) |>.setCell (by omega) (by omega) _ _) |>.setCell (by omega) (by omega) _ _) |>.setCell (by omega) (by omega) _ _
  have hVs : V.heap.size = w1.heap.size := by rw [hV]; simp only [size_setC]
  have BV : BoxN V (w.heap.size + 1) 44 [.int .i64 d.author, .int .i64 d.size, .int .i64 d.root, .slice x3 y3 z3, .slice x4 y4 z4, .slice x5 y5 z5] := by
    rw [hV]; exact ((((((((BR1.out.other (by omega) _ _).other (by omega) _ _).other (by omega) _ _).set 0 _).set 1 _).set 2 _).set 3 _).set 4 _).set 5 _
  have P1 := Lib.hid (RowK.kept O.out hwi (.inr (by omega)))
  have HV := Lib.hid (HB1.out.trans (hwi.below (by omega) (by omega)))
  clear hV px0 px1 px2 px3 px4 px5 pr0 pr1 pr2 pr3 pr4 pr5 fx fr hwi
  have r0 := BV.cell (i := 0) rfl
  have r1 := BV.cell (i := 1) rfl
  have r2 := BV.cell (i := 2) rfl
  have r3 := BV.cell (i := 3) rfl
  have r4 := BV.cell (i := 4) rfl
  have r5 := BV.cell (i := 5) rfl
  refine bodyPost_ret (v := .agg #[.int .i64 d.author, .int .i64 d.size, .int .i64 d.root, .slice x3 y3 z3, .slice x4 y4 z4, .slice x5 y5 z5]) (by simp [results, Tryz.results93, go_sem, r0, r1, r2, r3, r4, r5]) rfl ⟨_, rfl, ⟨_, rfl, ⟨_, rfl, J0.out, ⟨_, rfl, J1.out, ⟨_, rfl, J2.out, (rProof.own_mono P1.out (by omega) (by omega))⟩⟩⟩⟩, HV.out⟩
set_option maxHeartbeats 4000000 in
theorem spec_fOwn (v : Value) (d : HeadD) (w : World) (hl : (szHead d : Int) ≤ 1000000000) (h : (kS rHead).rd w v d) :
    Calls Tryz.prog 88 #[v] w fun e w' => ∃ v', e = .returned v' ∧ (kS rHead).own w' w.heap.size w'.heap.size v' d ∧ Below w.heap.size w w' := by
  unfold szHead at hl
  have HL := Lib.hid hl; clear hl
  obtain ⟨a3, n3, c3, a4, n4, c4, a5, n5, c5, rfl, i0, i1, i2, h3, h4, h5⟩ := rdHead.1 h
  have J0 := Lib.hid i0; have J1 := Lib.hid i1; have J2 := Lib.hid i2
  obtain ⟨W, hW⟩ : ∃ W, W = (w.alloc (.cells #[.int .i64 d.author, .int .i64 d.size, .int .i64 d.root, .slice a3 n3 c3, .slice a4 n4 c4, .slice a5 n5 c5] 44)).alloc (.cells #[.int .i64 0, .int .i64 0, .int .i64 0, .slice none 0 0, .slice none 0 0, .slice none 0 0] 44) := ⟨_, rfl⟩
  have HWB : Hid (Below w.heap.size w W) := by unfold Hid; rw [hW]; (repeat (first | exact Below.refl _ _ | assumption | refine Below.drew ?_ | refine Below.alloc ?_ (by first | (simp; done) | (simp; omega)) _ | refine Below.setCell ?_ (by first | (simp; done) | (simp; omega)) _))
  have hs0 : W.heap.size = w.heap.size + 2 := by rw [hW]; simp
  have hs1 : (w.alloc (.cells #[.int .i64 d.author, .int .i64 d.size, .int .i64 d.root, .slice a3 n3 c3, .slice a4 n4 c4, .slice a5 n5 c5] 44)).heap.size = w.heap.size + 1 := by simp
  have BX : Hid (BoxN W w.heap.size 44 [.int .i64 d.author, .int .i64 d.size, .int .i64 d.root, .slice a3 n3 c3, .slice a4 n4 c4, .slice a5 n5 c5]) := by unfold Hid; rw [hW]; exact (BoxN.new w [.int .i64 d.author, .int .i64 d.size, .int .i64 d.root, .slice a3 n3 c3, .slice a4 n4 c4, .slice a5 n5 c5] _).alloc _
  have BR : Hid (BoxN W (w.heap.size + 1) 44 [.int .i64 0, .int .i64 0, .int .i64 0, .slice none 0 0, .slice none 0 0, .slice none 0 0]) := by unfold Hid; rw [hW, ← hs1]; exact BoxN.new _ [.int .i64 0, .int .i64 0, .int .i64 0, .slice none 0 0, .slice none 0 0, .slice none 0 0] _
  have HP : Hid ((kS rProof).rd W (.agg #[.slice a3 n3 c3, .slice a4 n4 c4, .slice a5 n5 c5]) d.sign) := (kS rProof).rd_below (rdProof.2 ⟨_, _, _, _, _, _, _, _, _, rfl, h3, h4, h5⟩) HWB.out
  clear h h3 h4 h5 i0 i1 i2 hs1
  have p0 := BX.out.cell (i := 0) rfl
  have p1 := BX.out.cell (i := 1) rfl
  have p2 := BX.out.cell (i := 2) rfl
  have p3 := BX.out.cell (i := 3) rfl
  have p4 := BX.out.cell (i := 4) rfl
  have p5 := BX.out.cell (i := 5) rfl
  go_enter Tryz.func88, Tryz.ntmps88
  go_wp2_with fail
  rw [← hW]
  clear hW
  go_region_held3 (fun w' => (Below W.heap.size W w' ∨ Within (w.heap.size + 1) (w.heap.size + 2) W w') ∧ w'.cell? ⟨w.heap.size, 0, none⟩ = some (.int .i64 d.author) ∧ w'.cell? ⟨w.heap.size, 1, none⟩ = some (.int .i64 d.size) ∧ w'.cell? ⟨w.heap.size, 2, none⟩ = some (.int .i64 d.root) ∧ w'.cell? ⟨w.heap.size, 3, none⟩ = some (.slice a3 n3 c3) ∧ w'.cell? ⟨w.heap.size, 4, none⟩ = some (.slice a4 n4 c4) ∧ w'.cell? ⟨w.heap.size, 5, none⟩ = some (.slice a5 n5 c5)) (first
    | (have hbq : Below W.heap.size W _ := (Below.refl _ _).drew; with_reducible exact ⟨.inl hbq, box_at p0 hbq, box_at p1 hbq, box_at p2 hbq, box_at p3 hbq, box_at p4 hbq, box_at p5 hbq⟩)
    | (have hbq := hbz; with_reducible exact ⟨.inl hbq, box_at p0 hbq, box_at p1 hbq, box_at p2 hbq, box_at p3 hbq, box_at p4 hbq, box_at p5 hbq⟩)
    | (refine ⟨.inr (((((((Within.of_below hbz).setCell (by simp) (by simp) _ _ |>.setCell (by simp) (by simp) _ _) |>.setCell (by simp) (by simp) _ _) |>.setCell (by simp) (by simp) _ _) |>.setCell (by simp) (by simp) _ _) |>.setCell (by simp) (by simp) _ _)), ?_, ?_, ?_, ?_, ?_, ?_⟩ <;> (rw [sc_far (by simp), sc_far (by simp), sc_far (by simp), sc_far (by simp), sc_far (by simp), sc_far (by simp)]; first | exact box_at p0 hbz | exact box_at p1 hbz | exact box_at p2 hbz | exact box_at p3 hbz | exact box_at p4 hbz | exact box_at p5 hbz))
    | fail) ((first
    | (go_at_call 125; refine (spec_oOwnProof _ d.sign _ HL.out ((kS rProof).rd_below HP.out (Below.refl _ _).drew)).mono ?_; rintro e w1 ⟨v1, rfl, X, hb⟩; (obtain ⟨_, rfl, X⟩ := X); (obtain ⟨_, _, rfl, k3, ⟨_, _, rfl, k4, ⟨_, _, rfl, k5, rfl⟩⟩⟩ := rProof.own_rd X); (obtain ⟨x3, y3, z3, rfl⟩ := sInts.sl k3); (obtain ⟨x4, y4, z4, rfl⟩ := sInts.sl k4); (obtain ⟨x5, y5, z5, rfl⟩ := sInts.sl k5); clear k3 k4 k5; (have O : Hid (rProof.own w1 W.heap.size w1.heap.size [.slice x3 y3 z3, .slice x4 y4 z4, .slice x5 y5 z5] d.sign) := X); clear X; (have us1 : W.heap.size ≤ w1.heap.size := hb.size); (have hbz := keep_b hb (Below.refl _ _).drew); (have r0 := (BR.out.below hbz).cell (i := 0) rfl); (have r1 := (BR.out.below hbz).cell (i := 1) rfl); (have r2 := (BR.out.below hbz).cell (i := 2) rfl); (have r3 := (BR.out.below hbz).cell (i := 3) rfl); (have r4 := (BR.out.below hbz).cell (i := 4) rfl); (have r5 := (BR.out.below hbz).cell (i := 5) rfl); (have fr := (BR.out.below hbz).frozen))
    | fail))
  obtain ⟨V, hV⟩ : ∃ V, V = (((((w1.setCell ⟨w.heap.size + 1, 0, none⟩ (.int .i64 d.author)).setCell ⟨w.heap.size + 1, 1, none⟩ (.int .i64 d.size)).setCell ⟨w.heap.size + 1, 2, none⟩ (.int .i64 d.root)).setCell ⟨w.heap.size + 1, 3, none⟩ (.slice x3 y3 z3)).setCell ⟨w.heap.size + 1, 4, none⟩ (.slice x4 y4 z4)).setCell ⟨w.heap.size + 1, 5, none⟩ (.slice x5 y5 z5) := ⟨_, rfl⟩
  rw [← hV]
  have hwi : Within (w.heap.size + 1) (w.heap.size + 2) w1 V := by
    rw [hV]
    exact (((((Within.refl _ _ _ |>.setCell (by omega) (by omega) _ _) |>.setCell (by omega) (by omega) _ _) |>.setCell (by omega) (by omega) _ _) |>.setCell (by omega) (by omega) _ _) |>.setCell (by omega) (by omega) _ _) |>.setCell (by omega) (by omega) _ _
  have hVs : V.heap.size = w1.heap.size := by rw [hV]; simp only [size_setC]
  have BV : BoxN V (w.heap.size + 1) 44 [.int .i64 d.author, .int .i64 d.size, .int .i64 d.root, .slice x3 y3 z3, .slice x4 y4 z4, .slice x5 y5 z5] := by
    rw [hV]; exact ((((((BR.out.below hbz).set 0 _).set 1 _).set 2 _).set 3 _).set 4 _).set 5 _
  have P1 := Lib.hid (RowK.kept O.out hwi (.inr (by omega)))
  have HV := Lib.hid (HWB.out.trans (hbz.mono HWB.out.size) |>.trans (hwi.below (by omega) (by omega)))
  clear hV r0 r1 r2 r3 r4 r5 fr hb hbz hwi
  have r0 := BV.cell (i := 0) rfl
  have r1 := BV.cell (i := 1) rfl
  have r2 := BV.cell (i := 2) rfl
  have r3 := BV.cell (i := 3) rfl
  have r4 := BV.cell (i := 4) rfl
  have r5 := BV.cell (i := 5) rfl
  go_wp2_with fail
  refine bodyPost_ret (v := .agg #[.int .i64 d.author, .int .i64 d.size, .int .i64 d.root, .slice x3 y3 z3, .slice x4 y4 z4, .slice x5 y5 z5]) (by simp [results, Tryz.results88, go_sem, r0, r1, r2, r3, r4, r5]) rfl ⟨_, rfl, ⟨_, rfl, ⟨_, rfl, J0.out, ⟨_, rfl, J1.out, ⟨_, rfl, J2.out, (rProof.own_mono P1.out (by omega) (by omega))⟩⟩⟩⟩, HV.out⟩
end Go.Proofs.YtodennbdfloccaaGreat
