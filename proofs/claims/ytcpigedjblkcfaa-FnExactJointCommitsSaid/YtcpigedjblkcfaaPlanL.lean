/- Walks: laws.toPlan, the laws on plans. -/
import Derived.Test.YtcpigedjblkcfaaPl2
import Derived.Test.YtcpigedjblkcfaaGrpL
namespace Go.Proofs.Ytcpigedjblkcfaa
open Go.RowKit
set_option linter.unusedSimpArgs false
set_option linter.unusedVariables false

set_option maxRecDepth 100000 in
set_option maxHeartbeats 4000000 in
theorem laws_toPlan (p q g k o l m pt th tr mx vt sd : Int) (w : World) :
    Calls Try.prog 14 #[.agg #[.int .i64 p, .int .i64 q, .int .i64 g, .int .i64 k, .int .i64 o, .int .i64 l, .int .i64 m, .int .i64 pt, .int .i64 th, .int .i64 tr, .int .i64 mx, .int .i64 vt, .int .i64 sd]] w fun e w' => e = .returned (.agg #[.int .i64 p, .int .i64 q, .int .i64 g, .int .i64 k, .int .i64 o, .int .i64 l, .int .i64 m, .int .i64 pt, .int .i64 th, .int .i64 tr, .int .i64 mx, .int .i64 vt, .int .i64 sd]) ∧ Below w.heap.size w w' := by
  obtain ⟨V, hV⟩ : ∃ V, V = ((w.alloc (.cells #[.int .i64 p, .int .i64 q, .int .i64 g, .int .i64 k, .int .i64 o, .int .i64 l, .int .i64 m, .int .i64 pt, .int .i64 th, .int .i64 tr, .int .i64 mx, .int .i64 vt, .int .i64 sd] 27)).alloc (.cells #[.int .i64 0, .int .i64 0, .int .i64 0, .int .i64 0, .int .i64 0, .int .i64 0, .int .i64 0, .int .i64 0, .int .i64 0, .int .i64 0, .int .i64 0, .int .i64 0, .int .i64 0] 33)).alloc (.cells #[.int .i64 0, .int .i64 0, .int .i64 0, .int .i64 0, .int .i64 0, .int .i64 0, .int .i64 0, .int .i64 0, .int .i64 0, .int .i64 0, .int .i64 0, .int .i64 0, .int .i64 0] 33) := ⟨_, rfl⟩
  have hsV : V.heap.size = w.heap.size + 1 + 1 + 1 := by rw [hV]; simp
  have HB0 : Hid (Below w.heap.size w V) := by unfold Hid; rw [hV]; (repeat (first | exact Below.refl _ _ | assumption | refine Below.drew ?_ | refine Below.alloc ?_ (by first | (simp; done) | (simp; omega)) _ | refine Below.setCell ?_ (by first | (simp; done) | (simp; omega)) _))
  have HI0 : Hid (BoxN V w.heap.size 27 [.int .i64 p, .int .i64 q, .int .i64 g, .int .i64 k, .int .i64 o, .int .i64 l, .int .i64 m, .int .i64 pt, .int .i64 th, .int .i64 tr, .int .i64 mx, .int .i64 vt, .int .i64 sd]) := by unfold Hid; rw [hV]; exact ((BoxN.new w _ _).alloc _).alloc _
  have HR0 : Hid (BoxN V (w.heap.size + 1) 33 [.int .i64 0, .int .i64 0, .int .i64 0, .int .i64 0, .int .i64 0, .int .i64 0, .int .i64 0, .int .i64 0, .int .i64 0, .int .i64 0, .int .i64 0, .int .i64 0, .int .i64 0]) := by unfold Hid; rw [hV]; have := (BoxN.new (w.alloc (.cells #[.int .i64 p, .int .i64 q, .int .i64 g, .int .i64 k, .int .i64 o, .int .i64 l, .int .i64 m, .int .i64 pt, .int .i64 th, .int .i64 tr, .int .i64 mx, .int .i64 vt, .int .i64 sd] 27)) [.int .i64 0, .int .i64 0, .int .i64 0, .int .i64 0, .int .i64 0, .int .i64 0, .int .i64 0, .int .i64 0, .int .i64 0, .int .i64 0, .int .i64 0, .int .i64 0, .int .i64 0] 33).alloc (.cells #[.int .i64 0, .int .i64 0, .int .i64 0, .int .i64 0, .int .i64 0, .int .i64 0, .int .i64 0, .int .i64 0, .int .i64 0, .int .i64 0, .int .i64 0, .int .i64 0, .int .i64 0] 33); simpa using this
  have HO0 : Hid (BoxN V (w.heap.size + 1 + 1) 33 [.int .i64 0, .int .i64 0, .int .i64 0, .int .i64 0, .int .i64 0, .int .i64 0, .int .i64 0, .int .i64 0, .int .i64 0, .int .i64 0, .int .i64 0, .int .i64 0, .int .i64 0]) := by unfold Hid; rw [hV]; have := (BoxN.new ((w.alloc (.cells #[.int .i64 p, .int .i64 q, .int .i64 g, .int .i64 k, .int .i64 o, .int .i64 l, .int .i64 m, .int .i64 pt, .int .i64 th, .int .i64 tr, .int .i64 mx, .int .i64 vt, .int .i64 sd] 27)).alloc (.cells #[.int .i64 0, .int .i64 0, .int .i64 0, .int .i64 0, .int .i64 0, .int .i64 0, .int .i64 0, .int .i64 0, .int .i64 0, .int .i64 0, .int .i64 0, .int .i64 0, .int .i64 0] 33)) [.int .i64 0, .int .i64 0, .int .i64 0, .int .i64 0, .int .i64 0, .int .i64 0, .int .i64 0, .int .i64 0, .int .i64 0, .int .i64 0, .int .i64 0, .int .i64 0, .int .i64 0] 33); simpa using this
  have HV := Lib.hid hV; clear hV
  go_enter Try.func14, Try.ntmps14
  go_wp2_with fail
  rw [← HV.out]
  clear HV
  refine (laws_toGroup ⟨p, q, g⟩ _).mono ?_
  rintro e w1 ⟨rfl, hb1⟩
  have HI1 := Lib.hid (HI0.out.below hb1)
  have HR1 := Lib.hid (HR0.out.below hb1)
  have HO1 := Lib.hid (HO0.out.below hb1)
  have HB1 := Lib.hid (Below.next HB0.out hb1)
  clear hb1 HI0 HR0 HO0
  have i0 := HI1.out.cell (i := 0) rfl
  have i1 := HI1.out.cell (i := 1) rfl
  have i2 := HI1.out.cell (i := 2) rfl
  have i3 := HI1.out.cell (i := 3) rfl
  have i4 := HI1.out.cell (i := 4) rfl
  have i5 := HI1.out.cell (i := 5) rfl
  have i6 := HI1.out.cell (i := 6) rfl
  have i7 := HI1.out.cell (i := 7) rfl
  have i8 := HI1.out.cell (i := 8) rfl
  have i9 := HI1.out.cell (i := 9) rfl
  have i10 := HI1.out.cell (i := 10) rfl
  have i11 := HI1.out.cell (i := 11) rfl
  have i12 := HI1.out.cell (i := 12) rfl
  have o0 := HO1.out.cell (i := 0) rfl
  have o1 := HO1.out.cell (i := 1) rfl
  have o2 := HO1.out.cell (i := 2) rfl
  have o3 := HO1.out.cell (i := 3) rfl
  have o4 := HO1.out.cell (i := 4) rfl
  have o5 := HO1.out.cell (i := 5) rfl
  have o6 := HO1.out.cell (i := 6) rfl
  have o7 := HO1.out.cell (i := 7) rfl
  have o8 := HO1.out.cell (i := 8) rfl
  have o9 := HO1.out.cell (i := 9) rfl
  have o10 := HO1.out.cell (i := 10) rfl
  have o11 := HO1.out.cell (i := 11) rfl
  have o12 := HO1.out.cell (i := 12) rfl
  have fo := fun j => HO1.out.frozen j
  go_wp2_with fail
  obtain ⟨Z, hZ⟩ : ∃ Z, Z = ((w1.setCell ⟨w.heap.size + 1 + 1, 0, none⟩ (.int .i64 p)).setCell ⟨w.heap.size + 1 + 1, 1, none⟩ (.int .i64 q)).setCell ⟨w.heap.size + 1 + 1, 2, none⟩ (.int .i64 g) := ⟨_, rfl⟩
  have HI2 : Hid (BoxN Z w.heap.size 27 [.int .i64 p, .int .i64 q, .int .i64 g, .int .i64 k, .int .i64 o, .int .i64 l, .int .i64 m, .int .i64 pt, .int .i64 th, .int .i64 tr, .int .i64 mx, .int .i64 vt, .int .i64 sd]) := by unfold Hid; rw [hZ]; exact ((HI1.out.other (by omega) _ _).other (by omega) _ _).other (by omega) _ _
  have HR2 : Hid (BoxN Z (w.heap.size + 1) 33 [.int .i64 0, .int .i64 0, .int .i64 0, .int .i64 0, .int .i64 0, .int .i64 0, .int .i64 0, .int .i64 0, .int .i64 0, .int .i64 0, .int .i64 0, .int .i64 0, .int .i64 0]) := by unfold Hid; rw [hZ]; exact ((HR1.out.other (by omega) _ _).other (by omega) _ _).other (by omega) _ _
  have HO2 : Hid (BoxN Z (w.heap.size + 1 + 1) 33 [.int .i64 p, .int .i64 q, .int .i64 g, .int .i64 0, .int .i64 0, .int .i64 0, .int .i64 0, .int .i64 0, .int .i64 0, .int .i64 0, .int .i64 0, .int .i64 0, .int .i64 0]) := by unfold Hid; rw [hZ]; exact ((HO1.out.set 0 _).set 1 _).set 2 _
  have HB2 : Hid (Below w.heap.size w Z) := by unfold Hid; rw [hZ]; exact ((HB1.out.setCell (by show w.heap.size ≤ w.heap.size + 1 + 1; omega) _).setCell (by show w.heap.size ≤ w.heap.size + 1 + 1; omega) _).setCell (by show w.heap.size ≤ w.heap.size + 1 + 1; omega) _
  rw [← hZ]
  clear hZ HI1 HR1 HO1 HB1 i0 i1 i2 i3 i4 i5 i6 i7 i8 i9 i10 i11 i12 o0 o1 o2 o3 o4 o5 o6 o7 o8 o9 o10 o11 o12 fo
  refine (laws_toContest k o l m pt _).mono ?_
  rintro e w3 ⟨rfl, hb3⟩
  have HI3 := Lib.hid (HI2.out.below hb3)
  have HR3 := Lib.hid (HR2.out.below hb3)
  have HO3 := Lib.hid (HO2.out.below hb3)
  have HB3 := Lib.hid (Below.next HB2.out hb3)
  clear hb3 HI2 HR2 HO2 HB2
  have i0 := HI3.out.cell (i := 0) rfl
  have i1 := HI3.out.cell (i := 1) rfl
  have i2 := HI3.out.cell (i := 2) rfl
  have i3 := HI3.out.cell (i := 3) rfl
  have i4 := HI3.out.cell (i := 4) rfl
  have i5 := HI3.out.cell (i := 5) rfl
  have i6 := HI3.out.cell (i := 6) rfl
  have i7 := HI3.out.cell (i := 7) rfl
  have i8 := HI3.out.cell (i := 8) rfl
  have i9 := HI3.out.cell (i := 9) rfl
  have i10 := HI3.out.cell (i := 10) rfl
  have i11 := HI3.out.cell (i := 11) rfl
  have i12 := HI3.out.cell (i := 12) rfl
  have o0 := HO3.out.cell (i := 0) rfl
  have o1 := HO3.out.cell (i := 1) rfl
  have o2 := HO3.out.cell (i := 2) rfl
  have o3 := HO3.out.cell (i := 3) rfl
  have o4 := HO3.out.cell (i := 4) rfl
  have o5 := HO3.out.cell (i := 5) rfl
  have o6 := HO3.out.cell (i := 6) rfl
  have o7 := HO3.out.cell (i := 7) rfl
  have o8 := HO3.out.cell (i := 8) rfl
  have o9 := HO3.out.cell (i := 9) rfl
  have o10 := HO3.out.cell (i := 10) rfl
  have o11 := HO3.out.cell (i := 11) rfl
  have o12 := HO3.out.cell (i := 12) rfl
  have r0 := HR3.out.cell (i := 0) rfl
  have r1 := HR3.out.cell (i := 1) rfl
  have r2 := HR3.out.cell (i := 2) rfl
  have r3 := HR3.out.cell (i := 3) rfl
  have r4 := HR3.out.cell (i := 4) rfl
  have r5 := HR3.out.cell (i := 5) rfl
  have r6 := HR3.out.cell (i := 6) rfl
  have r7 := HR3.out.cell (i := 7) rfl
  have r8 := HR3.out.cell (i := 8) rfl
  have r9 := HR3.out.cell (i := 9) rfl
  have r10 := HR3.out.cell (i := 10) rfl
  have r11 := HR3.out.cell (i := 11) rfl
  have r12 := HR3.out.cell (i := 12) rfl
  have fo := fun j => HO3.out.frozen j
  have fr := fun j => HR3.out.frozen j
  go_wp2_with fail
  obtain ⟨Y, hY⟩ : ∃ Y, Y = (((((((((((((((((((((((w3.setCell ⟨w.heap.size + 1 + 1, 3, none⟩ (.int .i64 k)).setCell ⟨w.heap.size + 1 + 1, 4, none⟩ (.int .i64 o)).setCell ⟨w.heap.size + 1 + 1, 5, none⟩ (.int .i64 l)).setCell ⟨w.heap.size + 1 + 1, 6, none⟩ (.int .i64 m)).setCell ⟨w.heap.size + 1 + 1, 7, none⟩ (.int .i64 pt)).setCell ⟨w.heap.size + 1 + 1, 8, none⟩ (.int .i64 th)).setCell ⟨w.heap.size + 1 + 1, 9, none⟩ (.int .i64 tr)).setCell ⟨w.heap.size + 1 + 1, 10, none⟩ (.int .i64 mx)).setCell ⟨w.heap.size + 1 + 1, 11, none⟩ (.int .i64 vt)).setCell ⟨w.heap.size + 1 + 1, 12, none⟩ (.int .i64 sd)).setCell ⟨w.heap.size + 1, 0, none⟩ (.int .i64 p)).setCell ⟨w.heap.size + 1, 1, none⟩ (.int .i64 q)).setCell ⟨w.heap.size + 1, 2, none⟩ (.int .i64 g)).setCell ⟨w.heap.size + 1, 3, none⟩ (.int .i64 k)).setCell ⟨w.heap.size + 1, 4, none⟩ (.int .i64 o)).setCell ⟨w.heap.size + 1, 5, none⟩ (.int .i64 l)).setCell ⟨w.heap.size + 1, 6, none⟩ (.int .i64 m)).setCell ⟨w.heap.size + 1, 7, none⟩ (.int .i64 pt)).setCell ⟨w.heap.size + 1, 8, none⟩ (.int .i64 th)).setCell ⟨w.heap.size + 1, 9, none⟩ (.int .i64 tr)).setCell ⟨w.heap.size + 1, 10, none⟩ (.int .i64 mx)).setCell ⟨w.heap.size + 1, 11, none⟩ (.int .i64 vt)).setCell ⟨w.heap.size + 1, 12, none⟩ (.int .i64 sd)) := ⟨_, rfl⟩
  have HR4 : Hid (BoxN Y (w.heap.size + 1) 33 [.int .i64 p, .int .i64 q, .int .i64 g, .int .i64 k, .int .i64 o, .int .i64 l, .int .i64 m, .int .i64 pt, .int .i64 th, .int .i64 tr, .int .i64 mx, .int .i64 vt, .int .i64 sd]) := by unfold Hid; rw [hY]; exact (((((((((((((((((((((((HR3.out.other (by omega) _ _).other (by omega) _ _).other (by omega) _ _).other (by omega) _ _).other (by omega) _ _).other (by omega) _ _).other (by omega) _ _).other (by omega) _ _).other (by omega) _ _).other (by omega) _ _).set 0 _).set 1 _).set 2 _).set 3 _).set 4 _).set 5 _).set 6 _).set 7 _).set 8 _).set 9 _).set 10 _).set 11 _).set 12 _)
  have HB4 : Hid (Below w.heap.size w Y) := by unfold Hid; rw [hY]; exact (((((((((((((((((((((((HB3.out.setCell (by show w.heap.size ≤ w.heap.size + 1 + 1; omega) _).setCell (by show w.heap.size ≤ w.heap.size + 1 + 1; omega) _).setCell (by show w.heap.size ≤ w.heap.size + 1 + 1; omega) _).setCell (by show w.heap.size ≤ w.heap.size + 1 + 1; omega) _).setCell (by show w.heap.size ≤ w.heap.size + 1 + 1; omega) _).setCell (by show w.heap.size ≤ w.heap.size + 1 + 1; omega) _).setCell (by show w.heap.size ≤ w.heap.size + 1 + 1; omega) _).setCell (by show w.heap.size ≤ w.heap.size + 1 + 1; omega) _).setCell (by show w.heap.size ≤ w.heap.size + 1 + 1; omega) _).setCell (by show w.heap.size ≤ w.heap.size + 1 + 1; omega) _).setCell (by show w.heap.size ≤ w.heap.size + 1; omega) _).setCell (by show w.heap.size ≤ w.heap.size + 1; omega) _).setCell (by show w.heap.size ≤ w.heap.size + 1; omega) _).setCell (by show w.heap.size ≤ w.heap.size + 1; omega) _).setCell (by show w.heap.size ≤ w.heap.size + 1; omega) _).setCell (by show w.heap.size ≤ w.heap.size + 1; omega) _).setCell (by show w.heap.size ≤ w.heap.size + 1; omega) _).setCell (by show w.heap.size ≤ w.heap.size + 1; omega) _).setCell (by show w.heap.size ≤ w.heap.size + 1; omega) _).setCell (by show w.heap.size ≤ w.heap.size + 1; omega) _).setCell (by show w.heap.size ≤ w.heap.size + 1; omega) _).setCell (by show w.heap.size ≤ w.heap.size + 1; omega) _).setCell (by show w.heap.size ≤ w.heap.size + 1; omega) _)
  rw [← hY]
  clear hY HI3 HR3 HO3 HB3 i0 i1 i2 i3 i4 i5 i6 i7 i8 i9 i10 i11 i12 o0 o1 o2 o3 o4 o5 o6 o7 o8 o9 o10 o11 o12 r0 r1 r2 r3 r4 r5 r6 r7 r8 r9 r10 r11 r12 fo fr
  have r0 := HR4.out.cell (i := 0) rfl
  have r1 := HR4.out.cell (i := 1) rfl
  have r2 := HR4.out.cell (i := 2) rfl
  have r3 := HR4.out.cell (i := 3) rfl
  have r4 := HR4.out.cell (i := 4) rfl
  have r5 := HR4.out.cell (i := 5) rfl
  have r6 := HR4.out.cell (i := 6) rfl
  have r7 := HR4.out.cell (i := 7) rfl
  have r8 := HR4.out.cell (i := 8) rfl
  have r9 := HR4.out.cell (i := 9) rfl
  have r10 := HR4.out.cell (i := 10) rfl
  have r11 := HR4.out.cell (i := 11) rfl
  have r12 := HR4.out.cell (i := 12) rfl
  refine bodyPost_ret (v := .agg #[.int .i64 p, .int .i64 q, .int .i64 g, .int .i64 k, .int .i64 o, .int .i64 l, .int .i64 m, .int .i64 pt, .int .i64 th, .int .i64 tr, .int .i64 mx, .int .i64 vt, .int .i64 sd]) (by simp [results, Try.results14, go_sem, r0, r1, r2, r3, r4, r5, r6, r7, r8, r9, r10, r11, r12]) rfl ⟨rfl, HB4.out⟩
end Go.Proofs.Ytcpigedjblkcfaa
