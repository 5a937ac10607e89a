/- Draws of groups: anyGroup, exponents, elements. -/
import Derived.Test.YtboahnklilmdpaaDrG2
import Derived.Test.YtboahnklilmdpaaRegU
namespace Go.Proofs.Ytboahnklilmdpaa
open Go.RowKit
set_option linter.unusedSimpArgs false
set_option linter.unusedVariables false

theorem AllI64.four {a b c d : Int} (ha : I64 a) (hb : I64 b) (hc : I64 c) (hd : I64 d) : AllI64 [a, b, c, d] := AllI64.cons ha (AllI64.cons hb (AllI64.cons hc (AllI64.one hd)))
set_option maxRecDepth 100000 in
set_option maxHeartbeats 4000000 in
theorem spec_anyGroup (w0 : World) (g : Nat) (n : Int) (w : World) (h : Cur w0 w g n) (hb : Below w0.heap.size w0 w) (hn : n ≤ 1000000000000000) :
    Calls Try.prog 133 #[.pointer (some ⟨g, 0, none⟩)] w fun e w' => (∃ P Q G : Int, e = .returned (.agg #[.int .i64 P, .int .i64 Q, .int .i64 G]) ∧ (-7 ≤ P ∧ P ≤ 2000000010) ∧ (-7 ≤ Q ∧ Q ≤ 2000000010) ∧ (-7 ≤ G ∧ G ≤ 2000000010)) ∧ Cur w0 w' g (n + 10) ∧ Within g (g + 1) w w' := by
  have HC := Lib.hid h
  have hg := h.lt
  have hg0 := h.ge
  have HB0 := Lib.hid hb
  clear h hb
  obtain ⟨W, hW⟩ : ∃ W, W = w.alloc (.cells #[.int .i64 0, .int .i64 0, .int .i64 0] 39) := ⟨_, rfl⟩
  have hbW : Below w.heap.size w W := by rw [hW]; exact (Below.refl _ _).alloc (Nat.le_refl _) _
  have HX : Hid (BoxN W w.heap.size 39 [.int .i64 0, .int .i64 0, .int .i64 0]) := by unfold Hid; rw [hW]; exact BoxN.new w _ _
  have HSW : Hid (W.heap.size = w.heap.size + 1) := by unfold Hid; rw [hW]; simp
  have hsW : w.heap.size < W.heap.size := by have := HSW.out; omega
  replace HC := Lib.hid (HC.out.keep hbW)
  have HBW := Lib.hid hbW
  have HWW : Hid (Within g (g + 1) w W) := Within.of_below hbW
  have HB1 := Lib.hid (Below.next HB0.out hbW)
  clear hbW
  go_enter Try.func133, Try.ntmps133
  go_wp2_with fail
  rw [← hW]
  clear hW
  refine (spec_group w0 g _ _ HC.out HB1.out (by omega)).mono ?_
  rintro e w1 ⟨⟨P, Q, G, rfl, ⟨P1, P2⟩, ⟨Q1, Q2⟩, ⟨G1, G2⟩⟩, hc, hw⟩
  replace HX := Lib.hid (HX.out.kept hw (.inr (by omega)))
  replace HWW := Lib.hid (HWW.out.trans hw)
  replace HB1 := Lib.hid (hw.belowOf HB1.out (by omega))
  replace HC := Lib.hid hc
  have hs1 := hw.size
  clear hc hw
  obtain ⟨V, hV⟩ : ∃ V, V = w1.alloc (.cells #[.int .i64 P, .int .i64 Q, .int .i64 G] 39) := ⟨_, rfl⟩
  have hbV : Below w1.heap.size w1 V := by rw [hV]; exact (Below.refl _ _).alloc (Nat.le_refl _) _
  have HZ : Hid (BoxN V w1.heap.size 39 [.int .i64 P, .int .i64 Q, .int .i64 G]) := by unfold Hid; rw [hV]; exact BoxN.new w1 _ _
  have HSV : Hid (V.heap.size = w1.heap.size + 1) := by unfold Hid; rw [hV]; simp
  go_wp2_with fail
  rw [← hV]
  clear hV
  replace HX := Lib.hid (HX.out.below hbV)
  replace HWW := Lib.hid (HWW.out.trans (Within.of_below hbV))
  replace HB1 := Lib.hid (Below.next HB1.out hbV)
  replace HC := Lib.hid (HC.out.keep hbV)
  have hsV : w1.heap.size < V.heap.size := by have := HSV.out; omega
  clear hbV
  refine (spec_pick w0 g _ 24 _ HC.out HB1.out (by omega)).mono ?_
  rintro e w2 ⟨⟨i, rfl, hi0, _, hi2, _⟩, hc, hw⟩
  clear hi2
  replace HX := Lib.hid (HX.out.kept hw (.inr (by omega)))
  replace HZ := Lib.hid (HZ.out.kept hw (.inr (by omega)))
  replace HWW := Lib.hid (HWW.out.trans hw)
  replace HB1 := Lib.hid (hw.belowOf HB1.out (by omega))
  replace HC := Lib.hid hc
  have hs2 := hw.size
  clear hc hw HSV
  obtain ⟨V, rfl⟩ : ∃ u, u = w2 := ⟨_, rfl⟩
  have z0' := HZ.out.cell (i := 0) rfl
  have z1' := HZ.out.cell (i := 1) rfl
  have z2' := HZ.out.cell (i := 2) rfl
  have e1 : IntKind.i64.wrap (P + 2) = P + 2 := IntWalk.i64_in _ (by omega)
  have e2 : IntKind.i64.wrap (Q + 1) = Q + 1 := IntWalk.i64_in _ (by omega)
  have e3 : IntKind.i64.wrap (P - 1) = P - 1 := IntWalk.i64_in _ (by omega)
  have e4 : IntKind.i64.wrap (G + 1) = G + 1 := IntWalk.i64_in _ (by omega)
  rcases (by omega : i = 0 ∨ i = 1 ∨ i = 2 ∨ (i ≠ 0 ∧ i ≠ 1 ∧ i ≠ 2)) with rfl | rfl | rfl | ⟨i0, i1, i2⟩
  · go_wp2_with fail
    refine (spec_among w0 g _ _ [0, P + 2, 4, -7] _ (HC.out.keep ((Below.refl _ _).alloc (Nat.le_refl _) _)) (HB1.out.alloc HB1.out.size _) (by omega) (Apart.of_ownI (OwnI.lit V (Nat.le_refl _) (lit_I64 (by simp; omega)) (by rfl) (by simp; decide) 4 rfl) (by omega)) (by simp)).mono ?_
    rintro e w3 ⟨⟨x, rfl, hx⟩, hc, hw⟩
    have hxb : -7 ≤ x ∧ x ≤ 2000000010 := by
      simp only [List.mem_cons, List.not_mem_nil, or_false] at hx
      omega
    have hw3 : Within g (g + 1) V w3 := (Within.of_below ((Below.refl _ _).alloc (Nat.le_refl _) _)).trans hw
    have HZ3 := Lib.hid (HZ.out.kept hw3 (.inr (by omega)))
    have HX3 := Lib.hid (HX.out.kept hw3 (.inr (by omega)))
    have HW3 := Lib.hid (HWW.out.trans hw3)
    have HC3 := Lib.hid hc
    have hs3 := hw3.size
    clear hc hw hw3 hx z0' z1' z2'
    have q0 := HZ3.out.cell (i := 0) rfl
    have q1 := HZ3.out.cell (i := 1) rfl
    have q2 := HZ3.out.cell (i := 2) rfl
    have fq := fun j => HZ3.out.frozen j
    have HZ6 := Lib.hid (HZ3.out.set 0 (.int .i64 x))
    have HX6 := Lib.hid (HX3.out.other (b' := w1.heap.size) (by omega) 0 (.int .i64 x))
    have HBs : Hid (Below w.heap.size w3 (w3.setCell ⟨w1.heap.size, 0, none⟩ (.int .i64 x))) := (Below.refl w.heap.size _).setCell (by show w.heap.size ≤ w1.heap.size; omega) _
    have r0 := HX6.out.cell (i := 0) rfl
    have r1 := HX6.out.cell (i := 1) rfl
    have r2 := HX6.out.cell (i := 2) rfl
    have fr := fun j => HX6.out.frozen j
    go_wp2_with fail
    clear q0 q1 q2 fq
    obtain ⟨Y, hY⟩ : ∃ Y, Y = ((((w3.setCell ⟨w1.heap.size, 0, none⟩ (.int .i64 x)).setCell ⟨w.heap.size, 0, none⟩ (.int .i64 x)).setCell ⟨w.heap.size, 1, none⟩ (.int .i64 Q)).setCell ⟨w.heap.size, 2, none⟩ (.int .i64 G)) := ⟨_, rfl⟩
    have HXY : Hid (BoxN Y w.heap.size 39 [.int .i64 x, .int .i64 Q, .int .i64 G]) := by unfold Hid; rw [hY]; exact (((HX6.out).set 0 _).set 1 _).set 2 _
    have HBY : Hid (Below w.heap.size ((w3.setCell ⟨w1.heap.size, 0, none⟩ (.int .i64 x))) Y) := by unfold Hid; rw [hY]; exact (((Below.refl w.heap.size _).setCell (Nat.le_refl _) _).setCell (Nat.le_refl _) _).setCell (Nat.le_refl _) _
    rw [← hY]
    clear hY r0 r1 r2 fr
    have r0 := HXY.out.cell (i := 0) rfl
    have r1 := HXY.out.cell (i := 1) rfl
    have r2 := HXY.out.cell (i := 2) rfl
    refine bodyPost_ret (v := .agg #[.int .i64 x, .int .i64 Q, .int .i64 G]) (by simp [results, Try.results133, go_sem, r0, r1, r2]) rfl ⟨⟨_, _, _, rfl, ⟨by omega, by omega⟩, ⟨by omega, by omega⟩, ⟨by omega, by omega⟩⟩, ((HC3.out.belowB HBs.out hg).belowB HBY.out hg).mono (by omega), (HW3.out.belowStep HBs.out).belowStep HBY.out⟩
  · go_wp2_with fail
    refine (spec_among w0 g _ _ [0, 1, Q + 1, P - 1] _ (HC.out.keep ((Below.refl _ _).alloc (Nat.le_refl _) _)) (HB1.out.alloc HB1.out.size _) (by omega) (Apart.of_ownI (OwnI.lit V (Nat.le_refl _) (lit_I64 (by simp; omega)) (by rfl) (by simp; decide) 4 rfl) (by omega)) (by simp)).mono ?_
    rintro e w3 ⟨⟨x, rfl, hx⟩, hc, hw⟩
    have hxb : -7 ≤ x ∧ x ≤ 2000000010 := by
      simp only [List.mem_cons, List.not_mem_nil, or_false] at hx
      omega
    have hw3 : Within g (g + 1) V w3 := (Within.of_below ((Below.refl _ _).alloc (Nat.le_refl _) _)).trans hw
    have HZ3 := Lib.hid (HZ.out.kept hw3 (.inr (by omega)))
    have HX3 := Lib.hid (HX.out.kept hw3 (.inr (by omega)))
    have HW3 := Lib.hid (HWW.out.trans hw3)
    have HC3 := Lib.hid hc
    have hs3 := hw3.size
    clear hc hw hw3 hx z0' z1' z2'
    have q0 := HZ3.out.cell (i := 0) rfl
    have q1 := HZ3.out.cell (i := 1) rfl
    have q2 := HZ3.out.cell (i := 2) rfl
    have fq := fun j => HZ3.out.frozen j
    have HZ6 := Lib.hid (HZ3.out.set 1 (.int .i64 x))
    have HX6 := Lib.hid (HX3.out.other (b' := w1.heap.size) (by omega) 1 (.int .i64 x))
    have HBs : Hid (Below w.heap.size w3 (w3.setCell ⟨w1.heap.size, 1, none⟩ (.int .i64 x))) := (Below.refl w.heap.size _).setCell (by show w.heap.size ≤ w1.heap.size; omega) _
    have r0 := HX6.out.cell (i := 0) rfl
    have r1 := HX6.out.cell (i := 1) rfl
    have r2 := HX6.out.cell (i := 2) rfl
    have fr := fun j => HX6.out.frozen j
    go_wp2_with fail
    clear q0 q1 q2 fq
    obtain ⟨Y, hY⟩ : ∃ Y, Y = ((((w3.setCell ⟨w1.heap.size, 1, none⟩ (.int .i64 x)).setCell ⟨w.heap.size, 0, none⟩ (.int .i64 P)).setCell ⟨w.heap.size, 1, none⟩ (.int .i64 x)).setCell ⟨w.heap.size, 2, none⟩ (.int .i64 G)) := ⟨_, rfl⟩
    have HXY : Hid (BoxN Y w.heap.size 39 [.int .i64 P, .int .i64 x, .int .i64 G]) := by unfold Hid; rw [hY]; exact (((HX6.out).set 0 _).set 1 _).set 2 _
    have HBY : Hid (Below w.heap.size ((w3.setCell ⟨w1.heap.size, 1, none⟩ (.int .i64 x))) Y) := by unfold Hid; rw [hY]; exact (((Below.refl w.heap.size _).setCell (Nat.le_refl _) _).setCell (Nat.le_refl _) _).setCell (Nat.le_refl _) _
    rw [← hY]
    clear hY r0 r1 r2 fr
    have r0 := HXY.out.cell (i := 0) rfl
    have r1 := HXY.out.cell (i := 1) rfl
    have r2 := HXY.out.cell (i := 2) rfl
    refine bodyPost_ret (v := .agg #[.int .i64 P, .int .i64 x, .int .i64 G]) (by simp [results, Try.results133, go_sem, r0, r1, r2]) rfl ⟨⟨_, _, _, rfl, ⟨by omega, by omega⟩, ⟨by omega, by omega⟩, ⟨by omega, by omega⟩⟩, ((HC3.out.belowB HBs.out hg).belowB HBY.out hg).mono (by omega), (HW3.out.belowStep HBs.out).belowStep HBY.out⟩
  · go_wp2_with fail
    refine (spec_among w0 g _ _ [0, 1, P - 1, P, G + 1] _ (HC.out.keep ((Below.refl _ _).alloc (Nat.le_refl _) _)) (HB1.out.alloc HB1.out.size _) (by omega) (Apart.of_ownI (OwnI.lit V (Nat.le_refl _) (lit_I64 (by simp; omega)) (by rfl) (by simp; decide) 5 rfl) (by omega)) (by simp)).mono ?_
    rintro e w3 ⟨⟨x, rfl, hx⟩, hc, hw⟩
    have hxb : -7 ≤ x ∧ x ≤ 2000000010 := by
      simp only [List.mem_cons, List.not_mem_nil, or_false] at hx
      omega
    have hw3 : Within g (g + 1) V w3 := (Within.of_below ((Below.refl _ _).alloc (Nat.le_refl _) _)).trans hw
    have HZ3 := Lib.hid (HZ.out.kept hw3 (.inr (by omega)))
    have HX3 := Lib.hid (HX.out.kept hw3 (.inr (by omega)))
    have HW3 := Lib.hid (HWW.out.trans hw3)
    have HC3 := Lib.hid hc
    have hs3 := hw3.size
    clear hc hw hw3 hx z0' z1' z2'
    have q0 := HZ3.out.cell (i := 0) rfl
    have q1 := HZ3.out.cell (i := 1) rfl
    have q2 := HZ3.out.cell (i := 2) rfl
    have fq := fun j => HZ3.out.frozen j
    have HZ6 := Lib.hid (HZ3.out.set 2 (.int .i64 x))
    have HX6 := Lib.hid (HX3.out.other (b' := w1.heap.size) (by omega) 2 (.int .i64 x))
    have HBs : Hid (Below w.heap.size w3 (w3.setCell ⟨w1.heap.size, 2, none⟩ (.int .i64 x))) := (Below.refl w.heap.size _).setCell (by show w.heap.size ≤ w1.heap.size; omega) _
    have r0 := HX6.out.cell (i := 0) rfl
    have r1 := HX6.out.cell (i := 1) rfl
    have r2 := HX6.out.cell (i := 2) rfl
    have fr := fun j => HX6.out.frozen j
    go_wp2_with fail
    clear q0 q1 q2 fq
    obtain ⟨Y, hY⟩ : ∃ Y, Y = ((((w3.setCell ⟨w1.heap.size, 2, none⟩ (.int .i64 x)).setCell ⟨w.heap.size, 0, none⟩ (.int .i64 P)).setCell ⟨w.heap.size, 1, none⟩ (.int .i64 Q)).setCell ⟨w.heap.size, 2, none⟩ (.int .i64 x)) := ⟨_, rfl⟩
    have HXY : Hid (BoxN Y w.heap.size 39 [.int .i64 P, .int .i64 Q, .int .i64 x]) := by unfold Hid; rw [hY]; exact (((HX6.out).set 0 _).set 1 _).set 2 _
    have HBY : Hid (Below w.heap.size ((w3.setCell ⟨w1.heap.size, 2, none⟩ (.int .i64 x))) Y) := by unfold Hid; rw [hY]; exact (((Below.refl w.heap.size _).setCell (Nat.le_refl _) _).setCell (Nat.le_refl _) _).setCell (Nat.le_refl _) _
    rw [← hY]
    clear hY r0 r1 r2 fr
    have r0 := HXY.out.cell (i := 0) rfl
    have r1 := HXY.out.cell (i := 1) rfl
    have r2 := HXY.out.cell (i := 2) rfl
    refine bodyPost_ret (v := .agg #[.int .i64 P, .int .i64 Q, .int .i64 x]) (by simp [results, Try.results133, go_sem, r0, r1, r2]) rfl ⟨⟨_, _, _, rfl, ⟨by omega, by omega⟩, ⟨by omega, by omega⟩, ⟨by omega, by omega⟩⟩, ((HC3.out.belowB HBs.out hg).belowB HBY.out hg).mono (by omega), (HW3.out.belowStep HBs.out).belowStep HBY.out⟩
  · have j0 : (i == 0) = false := by rw [beq_eq_false_iff_ne]; exact i0
    have j1 : (i == 1) = false := by rw [beq_eq_false_iff_ne]; exact i1
    have j2 : (i == 2) = false := by rw [beq_eq_false_iff_ne]; exact i2
    have r0 := HX.out.cell (i := 0) rfl
    have r1 := HX.out.cell (i := 1) rfl
    have r2 := HX.out.cell (i := 2) rfl
    have fr := fun j => HX.out.frozen j
    go_wp2_with fail
    clear z0' z1' z2'
    obtain ⟨Y, hY⟩ : ∃ Y, Y = (((V.setCell ⟨w.heap.size, 0, none⟩ (.int .i64 P)).setCell ⟨w.heap.size, 1, none⟩ (.int .i64 Q)).setCell ⟨w.heap.size, 2, none⟩ (.int .i64 G)) := ⟨_, rfl⟩
    have HXY : Hid (BoxN Y w.heap.size 39 [.int .i64 P, .int .i64 Q, .int .i64 G]) := by unfold Hid; rw [hY]; exact (((HX.out).set 0 _).set 1 _).set 2 _
    have HBY : Hid (Below w.heap.size (V) Y) := by unfold Hid; rw [hY]; exact (((Below.refl w.heap.size _).setCell (Nat.le_refl _) _).setCell (Nat.le_refl _) _).setCell (Nat.le_refl _) _
    rw [← hY]
    clear hY r0 r1 r2 fr
    have r0 := HXY.out.cell (i := 0) rfl
    have r1 := HXY.out.cell (i := 1) rfl
    have r2 := HXY.out.cell (i := 2) rfl
    refine bodyPost_ret (v := .agg #[.int .i64 P, .int .i64 Q, .int .i64 G]) (by simp [results, Try.results133, go_sem, r0, r1, r2]) rfl ⟨⟨_, _, _, rfl, ⟨by omega, by omega⟩, ⟨by omega, by omega⟩, ⟨by omega, by omega⟩⟩, ((HC.out).belowB HBY.out hg).mono (by omega), (HWW.out).belowStep HBY.out⟩
end Go.Proofs.Ytboahnklilmdpaa
