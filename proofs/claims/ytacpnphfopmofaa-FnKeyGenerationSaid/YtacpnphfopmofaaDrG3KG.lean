/- Draws of groups: tiny, group, anyGroup. -/
import Derived.Test.YtacpnphfopmofaaDrG0KG
namespace Go.Proofs.Ytacpnphfopmofaa
open Go.RowKit
set_option linter.unusedSimpArgs false
set_option linter.unusedVariables false

set_option maxRecDepth 100000 in
set_option maxHeartbeats 2000000 in
theorem spec_tiny (w0 : World) (g : Nat) (n : Int) (w : World) (h : Cur w0 w g n) (hb : Below w0.heap.size w0 w) (hn : n ≤ 2000000000000000) :
    Calls Try.prog 133 #[.pointer (some ⟨g, 0, none⟩)] w fun e w' => (∃ P Q G : Int, e = .returned (.agg #[.int .i64 P, .int .i64 Q, .int .i64 G]) ∧ (3 ≤ P ∧ P ≤ 2000000000) ∧ (2 ≤ Q ∧ Q ≤ 1000000) ∧ (0 ≤ G ∧ G < P)) ∧ Cur w0 w' g (n + 2) ∧ Within g (g + 1) w w' := by
  have HC := Lib.hid h
  have hg := h.lt
  have hg0 := h.ge
  have HB0 := Lib.hid hb
  clear h hb
  obtain ⟨W, hW⟩ : ∃ W, W = w.alloc (.cells #[.int .i64 0, .int .i64 0, .int .i64 0] 24) := ⟨_, rfl⟩
  have hbW : Below w.heap.size w W := by rw [hW]; exact (Below.refl _ _).alloc (Nat.le_refl _) _
  have HX : Hid (BoxN W w.heap.size 24 [.int .i64 0, .int .i64 0, .int .i64 0]) := by unfold Hid; rw [hW]; exact BoxN.new w _ _
  have HSW : Hid (W.heap.size = w.heap.size + 1) := by unfold Hid; rw [hW]; simp
  have hsW : w.heap.size < W.heap.size := by have := HSW.out; omega
  replace HC := Lib.hid (HC.out.keep hbW)
  have HBW := Lib.hid hbW
  have HWW : Hid (Within g (g + 1) w W) := Within.of_below hbW
  have HB1 := Lib.hid (Below.next HB0.out hbW)
  clear hbW
  go_enter Try.func133, Try.ntmps133
  go_wp2_with fail
  rw [← hW]
  try rw [← HSW.out]
  clear hW
  refine (spec_among w0 g _ _ [3, 5, 5, 7, 11, 11, 13, 23] _ (HC.out.keep ((Below.refl _ _).alloc (Nat.le_refl _) _)) (HB1.out.alloc HB1.out.size _) (by omega) (Apart.of_ownI (OwnI.lit W (Nat.le_refl _) (lit_I64 rfl) (by rfl) (by decide) 8 rfl) (by omega)) (by decide)).mono ?_
  rintro e w1 ⟨⟨x, rfl, hx⟩, hc, hw⟩
  obtain ⟨p0, j, hx1, hx2, hx3, hx4, hx5⟩ := mkOk_tiny x hx
  have hw1 : Within g (g + 1) W w1 := (Within.of_below ((Below.refl _ _).alloc (Nat.le_refl _) _)).trans hw
  have HX1 := Lib.hid (HX.out.kept hw1 (.inr (by omega)))
  have HW1 := Lib.hid (HWW.out.trans hw1)
  have HC1 := Lib.hid hc
  have hs1 := hw1.size
  clear hc hw hw1 hx
  go_wp2_with fail
  refine (spec_MakeGroup x p0 j _ hx1 hx2 hx3 hx4 hx5).mono ?_
  rintro e w2 ⟨⟨P, G, rfl, P1, P2, G1, G2⟩, hb2⟩
  have HX2 := Lib.hid (HX1.out.below hb2)
  have HW2 := Lib.hid (HW1.out.trans (Within.of_below hb2))
  have HC2 := Lib.hid (HC1.out.keep hb2)
  have hs2 := hb2.size
  obtain ⟨x1, x2⟩ := hx1
  clear hb2 hx2 hx3 hx4 hx5
  have r0 := fun o => (HX2.out.alloc o).cell (i := 0) rfl
  have r1 := fun o => (HX2.out.alloc o).cell (i := 1) rfl
  have r2 := fun o => (HX2.out.alloc o).cell (i := 2) rfl
  have fr := fun o j => (HX2.out.alloc o).frozen j
  go_wp2_with fail
  obtain ⟨Y, hY⟩ : ∃ Y, Y = ((((w2.alloc (.cells #[.int .i64 P, .int .i64 x, .int .i64 G] 24)).setCell ⟨w.heap.size, 0, none⟩ (.int .i64 P)).setCell ⟨w.heap.size, 1, none⟩ (.int .i64 x)).setCell ⟨w.heap.size, 2, none⟩ (.int .i64 G)) := ⟨_, rfl⟩
  have HXY : Hid (BoxN Y w.heap.size 24 [.int .i64 P, .int .i64 x, .int .i64 G]) := by unfold Hid; rw [hY]; exact (((HX2.out.alloc _).set 0 _).set 1 _).set 2 _
  have HBY : Hid (Below w.heap.size ((w2.alloc (.cells #[.int .i64 P, .int .i64 x, .int .i64 G] 24))) Y) := by unfold Hid; rw [hY]; exact (((Below.refl w.heap.size _).setCell (Nat.le_refl _) _).setCell (Nat.le_refl _) _).setCell (Nat.le_refl _) _
  rw [← hY]
  clear hY r0 r1 r2 fr
  have r0 := HXY.out.cell (i := 0) rfl
  have r1 := HXY.out.cell (i := 1) rfl
  have r2 := HXY.out.cell (i := 2) rfl
  refine bodyPost_ret (v := .agg #[.int .i64 P, .int .i64 x, .int .i64 G]) (by simp [results, Try.results133, go_sem, r0, r1, r2]) rfl ⟨⟨_, _, _, rfl, ⟨by omega, by omega⟩, ⟨by omega, by omega⟩, ⟨by omega, by omega⟩⟩, ((HC2.out.keep ((Below.refl _ _).alloc (Nat.le_refl _) _)).belowB HBY.out hg).mono (by omega), (HW2.out.allocR _).belowStep HBY.out⟩
set_option maxRecDepth 100000 in
set_option maxHeartbeats 4000000 in
theorem spec_group (w0 : World) (g : Nat) (n : Int) (w : World) (h : Cur w0 w g n) (hb : Below w0.heap.size w0 w) (hn : n ≤ 1500000000000000) :
    Calls Try.prog 147 #[.pointer (some ⟨g, 0, none⟩)] w fun e w' => (∃ P Q G : Int, e = .returned (.agg #[.int .i64 P, .int .i64 Q, .int .i64 G]) ∧ (3 ≤ P ∧ P ≤ 2000000000) ∧ (2 ≤ Q ∧ Q ≤ 2000000000) ∧ (0 ≤ G ∧ G < P)) ∧ Cur w0 w' g (n + 6) ∧ Within g (g + 1) w w' := by
  have HC := Lib.hid h
  have hg := h.lt
  have hg0 := h.ge
  have HB0 := Lib.hid hb
  clear h hb
  obtain ⟨W, hW⟩ : ∃ W, W = w.alloc (.cells #[.int .i64 0, .int .i64 0, .int .i64 0] 24) := ⟨_, rfl⟩
  have hbW : Below w.heap.size w W := by rw [hW]; exact (Below.refl _ _).alloc (Nat.le_refl _) _
  have HX : Hid (BoxN W w.heap.size 24 [.int .i64 0, .int .i64 0, .int .i64 0]) := by unfold Hid; rw [hW]; exact BoxN.new w _ _
  have HSW : Hid (W.heap.size = w.heap.size + 1) := by unfold Hid; rw [hW]; simp
  have hsW : w.heap.size < W.heap.size := by have := HSW.out; omega
  replace HC := Lib.hid (HC.out.keep hbW)
  have HBW := Lib.hid hbW
  have HWW : Hid (Within g (g + 1) w W) := Within.of_below hbW
  have HB1 := Lib.hid (Below.next HB0.out hbW)
  clear hbW
  go_enter Try.func147, Try.ntmps147
  go_wp2_with fail
  rw [← hW]
  clear hW
  refine (spec_pick w0 g _ 6 _ HC.out HB1.out (by omega)).mono ?_
  rintro e wP ⟨⟨i, rfl, hi0, hi1, hi2, _⟩, hc, hw⟩
  have hi6 := hi2 (by omega)
  clear hi1 hi2
  replace HX := Lib.hid (HX.out.kept hw (.inr (by omega)))
  replace HWW := Lib.hid (HWW.out.trans hw)
  replace HB1 := Lib.hid (hw.belowOf HB1.out (by omega))
  replace HC := Lib.hid hc
  have hsp := hw.size
  clear hc hw
  by_cases h0 : i = 0
  · subst h0
    have r0 := HX.out.cell (i := 0) rfl
    have r1 := HX.out.cell (i := 1) rfl
    have r2 := HX.out.cell (i := 2) rfl
    have fr := fun j => HX.out.frozen j
    go_wp2_with fail
    obtain ⟨Y, hY⟩ : ∃ Y, Y = (((wP.setCell ⟨w.heap.size, 0, none⟩ (.int .i64 1000000007)).setCell ⟨w.heap.size, 1, none⟩ (.int .i64 500000003)).setCell ⟨w.heap.size, 2, none⟩ (.int .i64 4)) := ⟨_, rfl⟩
    have HXY : Hid (BoxN Y w.heap.size 24 [.int .i64 1000000007, .int .i64 500000003, .int .i64 4]) := by unfold Hid; rw [hY]; exact (((HX.out).set 0 _).set 1 _).set 2 _
    have HBY : Hid (Below w.heap.size (wP) Y) := by unfold Hid; rw [hY]; exact (((Below.refl w.heap.size _).setCell (Nat.le_refl _) _).setCell (Nat.le_refl _) _).setCell (Nat.le_refl _) _
    rw [← hY]
    clear hY r0 r1 r2 fr
    have r0 := HXY.out.cell (i := 0) rfl
    have r1 := HXY.out.cell (i := 1) rfl
    have r2 := HXY.out.cell (i := 2) rfl
    refine bodyPost_ret (v := .agg #[.int .i64 1000000007, .int .i64 500000003, .int .i64 4]) (by simp [results, Try.results147, go_sem, r0, r1, r2]) rfl ⟨⟨_, _, _, rfl, ⟨by omega, by omega⟩, ⟨by omega, by omega⟩, ⟨by omega, by omega⟩⟩, ((HC.out).belowB HBY.out hg).mono (by omega), (HWW.out).belowStep HBY.out⟩
  · have z0 : (i == 0) = false := by rw [beq_eq_false_iff_ne]; exact h0
    by_cases h1 : i = 1
    · subst h1
      go_wp2_with fail
      refine (spec_among w0 g _ _ [101, 1009, 1019, 65537, 999983] _ (HC.out.keep ((Below.refl _ _).alloc (Nat.le_refl _) _)) (HB1.out.alloc HB1.out.size _) (by omega) (Apart.of_ownI (OwnI.lit wP (Nat.le_refl _) (lit_I64 rfl) (by rfl) (by decide) 5 rfl) (by omega)) (by decide)).mono ?_
      rintro e w1 ⟨⟨x, rfl, hx⟩, hc, hw⟩
      obtain ⟨p0, j, hx1, hx2, hx3, hx4, hx5⟩ := mkOk_more x hx
      have hw1 : Within g (g + 1) wP w1 := (Within.of_below ((Below.refl _ _).alloc (Nat.le_refl _) _)).trans hw
      have HX1 := Lib.hid (HX.out.kept hw1 (.inr (by omega)))
      have HW1 := Lib.hid (HWW.out.trans hw1)
      have HC1 := Lib.hid hc
      have hs1 := hw1.size
      clear hc hw hw1 hx
      go_wp2_with fail
      refine (spec_MakeGroup x p0 j _ hx1 hx2 hx3 hx4 hx5).mono ?_
      rintro e w2 ⟨⟨P, G, rfl, P1, P2, G1, G2⟩, hb2⟩
      have HX2 := Lib.hid (HX1.out.below hb2)
      have HW2 := Lib.hid (HW1.out.trans (Within.of_below hb2))
      have HC2 := Lib.hid (HC1.out.keep hb2)
      have hs2 := hb2.size
      obtain ⟨x1, x2⟩ := hx1
      clear hb2 hx2 hx3 hx4 hx5
      have r0 := fun o => (HX2.out.alloc o).cell (i := 0) rfl
      have r1 := fun o => (HX2.out.alloc o).cell (i := 1) rfl
      have r2 := fun o => (HX2.out.alloc o).cell (i := 2) rfl
      have fr := fun o j => (HX2.out.alloc o).frozen j
      go_wp2_with fail
      obtain ⟨Y, hY⟩ : ∃ Y, Y = ((((w2.alloc (.cells #[.int .i64 P, .int .i64 x, .int .i64 G] 24)).setCell ⟨w.heap.size, 0, none⟩ (.int .i64 P)).setCell ⟨w.heap.size, 1, none⟩ (.int .i64 x)).setCell ⟨w.heap.size, 2, none⟩ (.int .i64 G)) := ⟨_, rfl⟩
      have HXY : Hid (BoxN Y w.heap.size 24 [.int .i64 P, .int .i64 x, .int .i64 G]) := by unfold Hid; rw [hY]; exact (((HX2.out.alloc _).set 0 _).set 1 _).set 2 _
      have HBY : Hid (Below w.heap.size ((w2.alloc (.cells #[.int .i64 P, .int .i64 x, .int .i64 G] 24))) Y) := by unfold Hid; rw [hY]; exact (((Below.refl w.heap.size _).setCell (Nat.le_refl _) _).setCell (Nat.le_refl _) _).setCell (Nat.le_refl _) _
      rw [← hY]
      clear hY r0 r1 r2 fr
      have r0 := HXY.out.cell (i := 0) rfl
      have r1 := HXY.out.cell (i := 1) rfl
      have r2 := HXY.out.cell (i := 2) rfl
      refine bodyPost_ret (v := .agg #[.int .i64 P, .int .i64 x, .int .i64 G]) (by simp [results, Try.results147, go_sem, r0, r1, r2]) rfl ⟨⟨_, _, _, rfl, ⟨by omega, by omega⟩, ⟨by omega, by omega⟩, ⟨by omega, by omega⟩⟩, ((HC2.out.keep ((Below.refl _ _).alloc (Nat.le_refl _) _)).belowB HBY.out hg).mono (by omega), (HW2.out.allocR _).belowStep HBY.out⟩
    · have z1 : (i == 1) = false := by rw [beq_eq_false_iff_ne]; exact h1
      clear h0 h1
      go_wp2_with fail
      refine (spec_tiny w0 g _ _ HC.out HB1.out (by omega)).mono ?_
      rintro e w1 ⟨⟨P, Q, G, rfl, ⟨P1, P2⟩, ⟨Q1, Q2⟩, ⟨G1, G2⟩⟩, hc, hw⟩
      replace HX := Lib.hid (HX.out.kept hw (.inr (by omega)))
      replace HWW := Lib.hid (HWW.out.trans hw)
      replace HB1 := Lib.hid (hw.belowOf HB1.out (by omega))
      replace HC := Lib.hid hc
      have hs1 := hw.size
      clear hc hw
      obtain ⟨V, hV⟩ : ∃ V, V = w1.alloc (.cells #[.int .i64 P, .int .i64 Q, .int .i64 G] 24) := ⟨_, rfl⟩
      have hbV : Below w1.heap.size w1 V := by rw [hV]; exact (Below.refl _ _).alloc (Nat.le_refl _) _
      have HZ : Hid (BoxN V w1.heap.size 24 [.int .i64 P, .int .i64 Q, .int .i64 G]) := by unfold Hid; rw [hV]; exact BoxN.new w1 _ _
      go_wp2_with fail
      rw [← hV]
      clear hV
      replace HX := Lib.hid (HX.out.below hbV)
      replace HWW := Lib.hid (HWW.out.trans (Within.of_below hbV))
      replace HB1 := Lib.hid (Below.next HB1.out hbV)
      replace HC := Lib.hid (HC.out.keep hbV)
      have hsV := hbV.size
      clear hbV
      have z0' := HZ.out.cell (i := 0) rfl
      have z1' := HZ.out.cell (i := 1) rfl
      have z2' := HZ.out.cell (i := 2) rfl
      have eq1 : IntKind.i64.wrap (Q - 1) = Q - 1 := IntWalk.i64_in _ (by omega)
      try (go_wp2_with fail)
      refine wp_region_noPanic ?_
      refine wp_region_take (fun w' => Within g (g + 1) V w' ∧ w'.cell? ⟨w1.heap.size, 0, none⟩ = some (.int .i64 P) ∧ w'.cell? ⟨w1.heap.size, 1, none⟩ = some (.int .i64 Q) ∧ w'.cell? ⟨w1.heap.size, 2, none⟩ = some (.int .i64 G)) 16 [(true, 0), (true, 1), (true, 2), (true, 3), (true, 4), (true, 5), (true, 6), (false, 7), (true, 8), (false, 9)] [10, 11] (by kernel_rfl) (by kernel_rfl) rfl (fun _ _ _ _ _ h => h) ⟨(Within.refl _ _ _).drew, z0', z1', z2'⟩ ?_
      simp only [pickL, pickN, List.getElem?_cons_zero, List.getElem?_cons_succ]
      have hwz : Within g (g + 1) V V.drew := (Within.refl _ _ _).drew
      repeat (refine' wpTake_read _ (by rfl) (fun w' hS' => ?_) ?_; rotate_left; · ((try dsimp only at hS'); go_simp; (try with_reducible rfl)); (try simp only [Act.put, List.setIfInBounds_toArray, List.set_cons_zero, List.set_cons_succ]))
      refine wpTake_do (by rfl) (fun K hK => ?_)
      go_simp
      go_at_call 72
      refine (spec_pick w0 g _ (Q - 1) _ (HC.out.keep (Below.refl _ _).drew) (hwz.belowOf HB1.out (by omega)) (by omega)).mono ?_
      rintro e w4 ⟨⟨y, rfl, hy0, hy1, _, _⟩, hc, hw⟩
      have hw4 := hwz.trans hw
      have HC4 := Lib.hid hc
      clear hc hw hwz
      have ey : IntKind.i64.wrap (1 + y) = 1 + y := IntWalk.i64_in _ (by omega)
      refine hK.out _ _ ⟨hw4, within_at hw4 z0' (.inr (by omega)), within_at hw4 z1' (.inr (by omega)), within_at hw4 z2' (.inr (by omega))⟩ (fun _ => ?_)
      clear hK K
      try simp only [Act.put, List.setIfInBounds_toArray, List.set_cons_zero, List.set_cons_succ]
      repeat (refine' wpTake_read _ (by rfl) (fun w' hS' => ?_) ?_; rotate_left; · ((try dsimp only at hS'); go_simp; (try with_reducible rfl)); (try simp only [Act.put, List.setIfInBounds_toArray, List.set_cons_zero, List.set_cons_succ]))
      refine wpTake_do (by rfl) (fun K hK => ?_)
      go_simp
      go_at_call 57
      refine (spec_gExpW ⟨P, Q, G⟩ G (1 + y) _ ⟨by show (1 : Int) ≤ P; omega, by show P ≤ 3000000000; omega⟩ ⟨by show (1 : Int) ≤ Q; omega, by show Q ≤ 3000000000; omega⟩ ⟨by omega, by omega⟩ ⟨by omega, by omega⟩).mono ?_
      rintro e w5 ⟨⟨z, rfl, hz0, hz1⟩, hb5⟩
      have hw5 := hw4.trans (Within.of_below hb5)
      have HC5 := Lib.hid (HC4.out.keep hb5)
      clear hb5 hw4
      refine hK.out _ _ ⟨hw5, within_at hw5 z0' (.inr (by omega)), within_at hw5 z1' (.inr (by omega)), within_at hw5 z2' (.inr (by omega))⟩ (fun _ => ?_)
      clear hK K
      try simp only [Act.put, List.setIfInBounds_toArray, List.set_cons_zero, List.set_cons_succ]
      refine wpTake_nil ?_
      have HZ5 := Lib.hid (HZ.out.kept hw5 (.inr (by omega)))
      have HX5 := Lib.hid (HX.out.kept hw5 (.inr (by omega)))
      have HW5 := Lib.hid (HWW.out.trans hw5)
      have hs5 := hw5.size
      clear hw5 z0' z1' z2'
      have q0 := HZ5.out.cell (i := 0) rfl
      have q1 := HZ5.out.cell (i := 1) rfl
      have q2 := HZ5.out.cell (i := 2) rfl
      have fq := fun j => HZ5.out.frozen j
      go_wp2_with fail
      refine NoPanic.normal ?_
      have HZ6 := Lib.hid (HZ5.out.set 2 (.int .i64 z))
      have HX6 := Lib.hid (HX5.out.other (b' := w1.heap.size) (by omega) 2 (.int .i64 z))
      have HBs : Hid (Below w.heap.size w5 (w5.setCell ⟨w1.heap.size, 2, none⟩ (.int .i64 z))) := (Below.refl w.heap.size _).setCell (by show w.heap.size ≤ w1.heap.size; omega) _
      obtain ⟨U, hU⟩ : ∃ U, U = w5.setCell ⟨w1.heap.size, 2, none⟩ (.int .i64 z) := ⟨_, rfl⟩
      rw [← hU] at HZ6 HX6 HBs ⊢
      clear hU q0 q1 q2 fq
      have q0 := HZ6.out.cell (i := 0) rfl
      have q1 := HZ6.out.cell (i := 1) rfl
      have q2 := HZ6.out.cell (i := 2) rfl
      have r0 := HX6.out.cell (i := 0) rfl
      have r1 := HX6.out.cell (i := 1) rfl
      have r2 := HX6.out.cell (i := 2) rfl
      have fr := fun j => HX6.out.frozen j
      go_wp2_with fail
      clear q0 q1 q2
      obtain ⟨Y, hY⟩ : ∃ Y, Y = (((U.setCell ⟨w.heap.size, 0, none⟩ (.int .i64 P)).setCell ⟨w.heap.size, 1, none⟩ (.int .i64 Q)).setCell ⟨w.heap.size, 2, none⟩ (.int .i64 z)) := ⟨_, rfl⟩
      have HXY : Hid (BoxN Y w.heap.size 24 [.int .i64 P, .int .i64 Q, .int .i64 z]) := by unfold Hid; rw [hY]; exact (((HX6.out).set 0 _).set 1 _).set 2 _
      have HBY : Hid (Below w.heap.size (U) Y) := by unfold Hid; rw [hY]; exact (((Below.refl w.heap.size _).setCell (Nat.le_refl _) _).setCell (Nat.le_refl _) _).setCell (Nat.le_refl _) _
      rw [← hY]
      clear hY r0 r1 r2 fr
      have r0 := HXY.out.cell (i := 0) rfl
      have r1 := HXY.out.cell (i := 1) rfl
      have r2 := HXY.out.cell (i := 2) rfl
      refine bodyPost_ret (v := .agg #[.int .i64 P, .int .i64 Q, .int .i64 z]) (by simp [results, Try.results147, go_sem, r0, r1, r2]) rfl ⟨⟨_, _, _, rfl, ⟨by omega, by omega⟩, ⟨by omega, by omega⟩, ⟨by omega, hz1⟩⟩, ((HC5.out.belowB HBs.out hg).belowB HBY.out hg).mono (by omega), (HW5.out.belowStep HBs.out).belowStep HBY.out⟩
end Go.Proofs.Ytacpnphfopmofaa
namespace Go.Proofs.Ytacpnphfopmofaa
open Go.RowKit
set_option linter.unusedSimpArgs false
set_option linter.unusedVariables false

/-- an entry of the order: a read; an operation that waits for all; two operations in either order -/
inductive RegE where
  | rd (i : Nat)
  | one (i : Nat)
  | both (i j : Nat)
inductive RegO where
  | rd (o : Oper)
  | one (o : Oper)
  | both (o p : Oper)
def RegE.inE (x : RegE) (k : Nat) : Bool := match x with
  | .rd i => i == k
  | .one i => i == k
  | .both i j => i == k || j == k
def inU (hd : List RegE) (k : Nat) : Bool := hd.any fun x => x.inE k
def needsU (ops : Array Oper) (F : Nat) (t : Nat) (x : RegE) : Bool := match x with
  | .rd i => regNeeds ops F t i
  | .one _ => true
  | .both _ _ => true
def lexU (ops : Array Oper) (tl : List Nat) : List RegE → Array Bool → Bool
  | [], listed => seqI ops tl listed
  | .rd i :: r, listed => (Region.ready .any ops listed).contains i && (Region.free .any ops listed i && lexU ops tl r (listed.setIfInBounds i true))
  | .one i :: r, listed => decide (Region.ready .any ops listed = [i]) && lexU ops tl r (listed.setIfInBounds i true)
  | .both i j :: r, listed => decide (Region.ready .any ops listed = [i, j] ∧ i ≠ j) && (decide (Region.ready .any ops (listed.setIfInBounds i true) = [j]) && (decide (Region.ready .any ops (listed.setIfInBounds j true) = [i]) && lexU ops tl r ((listed.setIfInBounds i true).setIfInBounds j true)))
def lenU : List RegE → Nat
  | [] => 0
  | .both _ _ :: r => lenU r + 2
  | .rd _ :: r => lenU r + 1
  | .one _ :: r => lenU r + 1
def takeU (ops : Array Oper) (F : Nat) (hd : List RegE) (tl : List Nat) : Bool :=
  Region.noSelect ops && ((tl.all fun t => !inU hd t) && (((List.range ops.size).all fun t => inU hd t || hd.all fun x => needsU ops F t x) && lexU ops tl hd (Array.replicate ops.size false)))
def pickU (l : List Oper) : List RegE → List RegO
  | [] => []
  | .rd i :: r => match l[i]? with
    | some o => .rd o :: pickU l r
    | none => pickU l r
  | .one i :: r => match l[i]? with
    | some o => .one o :: pickU l r
    | none => pickU l r
  | .both i j :: r => match l[i]?, l[j]? with
    | some o, some p => .both o p :: pickU l r
    | _, _ => pickU l r
section
variable {P : Program} {ops : Array Oper} {Q : Exit → Act → World → Prop} {S : World → Prop}
/-- an operation that changes the world -/
def wpO (P : Program) (ops : Array Oper) (Q : Exit → Act → World → Prop) (o : Oper) (K : Act → World → Prop) (a : Act) (w : World) : Prop :=
  if Region.wanted o (yielded ops a.tmps) then o.wp P a w K Q ∨ (o.asks P a w ∧ LetsOut Q) else K (a.put o.dst undef) w
def wpU (P : Program) (ops : Array Oper) (Q : Exit → Act → World → Prop) (S : World → Prop) (K : Act → World → Prop) : List RegO → Act → World → Prop
  | [], a, w => K a w
  | .rd o :: rest, a, w => if Region.wanted o (yielded ops a.tmps) then ∃ v, (∀ w', S w' → (execOp a.eval o).run P w' = .ok (.value v) w') ∧ wpU P ops Q S K rest (a.put o.dst v) w else wpU P ops Q S K rest (a.put o.dst undef) w
  | .one o :: rest, a, w => wpO P ops Q o (fun a' w' => S w' ∧ wpU P ops Q S K rest a' w') a w
  | .both o p :: rest, a, w => wpO P ops Q o (fun a' w' => S w' ∧ wpO P ops Q p (fun a2 w2 => S w2 ∧ wpU P ops Q S K rest a2 w2) a' w') a w ∧
      wpO P ops Q p (fun a' w' => S w' ∧ wpO P ops Q o (fun a2 w2 => S w2 ∧ wpU P ops Q S K rest a2 w2) a' w') a w
theorem wpU_nil {K : Act → World → Prop} {a : Act} {w : World} (h : K a w) : wpU P ops Q S K [] a w := h
theorem wpU_read {K : Act → World → Prop} {o : Oper} {rest : List RegO} {a : Act} {w : World} (v : Value) (hw : Region.wanted o (yielded ops a.tmps) = true)
    (hy : ∀ w', S w' → (execOp a.eval o).run P w' = .ok (.value v) w') (h : wpU P ops Q S K rest (a.put o.dst v) w) : wpU P ops Q S K (.rd o :: rest) a w := by
  unfold wpU; rw [if_pos hw]; exact ⟨v, hy, h⟩
theorem wpO_do {R : Act → World → Prop} {o : Oper} {a : Act} {w : World} (hw : Region.wanted o (yielded ops a.tmps) = true)
    (h : ∀ K' : Act → World → Prop, Shut (∀ a w, S w → (S w → R a w) → K' a w) → o.wp P a w K' Q) : wpO P ops Q o (fun a' w' => S w' ∧ R a' w') a w := by
  unfold wpO; rw [if_pos hw]; exact .inl (h _ (fun a w hS hT => ⟨hS, hT hS⟩))
theorem wpU_do {K : Act → World → Prop} {o : Oper} {rest : List RegO} {a : Act} {w : World} (hw : Region.wanted o (yielded ops a.tmps) = true)
    (h : ∀ K' : Act → World → Prop, Shut (∀ a w, S w → (S w → wpU P ops Q S K rest a w) → K' a w) → o.wp P a w K' Q) : wpU P ops Q S K (.one o :: rest) a w := wpO_do hw h
theorem wpU_both {K : Act → World → Prop} {o p : Oper} {rest : List RegO} {a : Act} {w : World}
    (h1 : wpO P ops Q o (fun a' w' => S w' ∧ wpO P ops Q p (fun a2 w2 => S w2 ∧ wpU P ops Q S K rest a2 w2) a' w') a w)
    (h2 : wpO P ops Q p (fun a' w' => S w' ∧ wpO P ops Q o (fun a2 w2 => S w2 ∧ wpU P ops Q S K rest a2 w2) a' w') a w) : wpU P ops Q S K (.both o p :: rest) a w := ⟨h1, h2⟩
theorem wpOp_of_O {l : List Oper} (hl : ops = l.toArray) {i : Nat} {o : Oper} (ho : l[i]? = some o) {K : Act → World → Prop} {a : Act} {w : World} (h : wpO P ops Q o K a w) : wpOp P ops Q i K a w := by
  have hoi : ops[i]? = some o := by rw [hl]; simpa using ho
  unfold wpOp
  simp only [hoi]
  exact h
theorem ready_get {ops : Array Oper} {l : List Oper} (hl : ops = l.toArray) {listed : Array Bool} {i : Nat} (h : i ∈ Region.ready .any ops listed) : ∃ o, l[i]? = some o ∧ ops[i]? = some o := by
  obtain ⟨_, oi, hoi, _⟩ := mem_ready.1 h
  exact ⟨oi, by rw [hl] at hoi; simpa using hoi, hoi⟩
theorem wpAnyT_of_U {l : List Oper} (hl : ops = l.toArray) {F : Nat} {Hd : Nat → Bool} {K : Act → World → Prop} {tl : List Nat} (hsel : Region.noSelect ops = true) (hT : ∀ t ∈ tl, Hd t = false)
    (hQ : ∀ c a d v w, Q (.panic c) (a.put d v) w → Q (.panic c) a w) :
    ∀ (hd : List RegE) (listed : Array Bool) (a : Act) (w : World), (∀ x ∈ hd, (∀ k, x.inE k = true → Hd k = true) ∧ ∀ t, t < ops.size → Hd t = false → needsU ops F t x = true) →
      InvT ops Hd listed → lexU ops tl hd listed = true → S w → wpU P ops Q S K (pickU l hd) a w →
      wpAnyT P ops Q S Hd (fun listed' a' w' => seqI ops tl listed' = true ∧ K a' w') (lenU hd) listed a w
  | [], listed, a, w, _, _, hB, _, h => ⟨by simpa [lexU] using hB, h⟩
  | .rd i :: r, listed, a, w, hh, inv, hB, hS, h => by
    simp only [lexU, Bool.and_eq_true] at hB
    obtain ⟨hr, hf, hB'⟩ := hB
    have hr' : i ∈ Region.ready .any ops listed := by simpa using hr
    obtain ⟨oi, hli, hoi⟩ := ready_get hl hr'
    unfold pickU at h
    rw [hli] at h
    obtain ⟨h1, h2⟩ := hh (.rd i) (by simp)
    have ih := wpAnyT_of_U (F := F) (K := K) hl hsel hT hQ r (listed.setIfInBounds i true)
    have hh' : ∀ x ∈ r, (∀ k, x.inE k = true → Hd k = true) ∧ ∀ t, t < ops.size → Hd t = false → needsU ops F t x = true := fun x hx => hh x (by simp [hx])
    have h1' : Hd i = true := h1 i (by simp [RegE.inE])
    have h2' : ∀ t, t < ops.size → Hd t = false → regNeeds ops F t i = true := h2
    unfold wpU at h
    by_cases hw : Region.wanted oi (yielded ops a.tmps) = true
    · rw [if_pos hw] at h
      obtain ⟨v, hy, hK⟩ := h
      exact wpAnyT_first hoi (Region.noSelect_spec hsel) (fun c a w => hQ c a _ _ w) h2' h1' (fun listed' a' w' hL => seqI_ready hT hL.1) (lenU r) listed a w inv (Region.free_spec hoi hf) hr' (.inl ⟨hw, hy⟩) hS
        (ih _ w hh' (inv.set hr') hB' hS hK)
    · rw [if_neg hw] at h
      exact wpAnyT_first hoi (Region.noSelect_spec hsel) (fun c a w => hQ c a _ _ w) h2' h1' (fun listed' a' w' hL => seqI_ready hT hL.1) (lenU r) listed a w inv (Region.free_spec hoi hf) hr' (.inr ⟨by simpa using hw, rfl⟩) hS
        (ih _ w hh' (inv.set hr') hB' hS h)
  | .one i :: r, listed, a, w, hh, inv, hB, hS, h => by
    simp only [lexU, Bool.and_eq_true, decide_eq_true_eq] at hB
    obtain ⟨hf, hB'⟩ := hB
    have hr' : i ∈ Region.ready .any ops listed := by rw [hf]; simp
    obtain ⟨oi, hli, hoi⟩ := ready_get hl hr'
    unfold pickU at h
    rw [hli] at h
    obtain ⟨h1, h2⟩ := hh (.one i) (by simp)
    have ih := wpAnyT_of_U (F := F) (K := K) hl hsel hT hQ r (listed.setIfInBounds i true)
    have hh' : ∀ x ∈ r, (∀ k, x.inE k = true → Hd k = true) ∧ ∀ t, t < ops.size → Hd t = false → needsU ops F t x = true := fun x hx => hh x (by simp [hx])
    unfold wpU at h
    refine ⟨fun h0 => (by rw [h0] at hr'; cases hr'), fun j hj => ?_⟩
    rw [hf] at hj
    have hji : j = i := by simpa using hj
    subst hji
    refine ⟨h1 j (by simp [RegE.inE]), ?_⟩
    exact wpOp_mono (fun a' w' hh2 => ⟨hh2.1, ih a' w' hh' (inv.set hr') hB' hh2.1 hh2.2⟩) (wpOp_of_O hl hli h)
  | .both i j :: r, listed, a, w, hh, inv, hB, hS, h => by
    simp only [lexU, Bool.and_eq_true, decide_eq_true_eq] at hB
    obtain ⟨⟨hf, hne⟩, hfi, hfj, hB'⟩ := hB
    have hri : i ∈ Region.ready .any ops listed := by rw [hf]; simp
    have hrj : j ∈ Region.ready .any ops listed := by rw [hf]; simp
    have hrij : j ∈ Region.ready .any ops (listed.setIfInBounds i true) := by rw [hfi]; simp
    have hrji : i ∈ Region.ready .any ops (listed.setIfInBounds j true) := by rw [hfj]; simp
    obtain ⟨oi, hli, hoi⟩ := ready_get hl hri
    obtain ⟨oj, hlj, hoj⟩ := ready_get hl hrj
    unfold pickU at h
    rw [hli, hlj] at h
    obtain ⟨h1, h2⟩ := hh (.both i j) (by simp)
    have hi1 : Hd i = true := h1 i (by simp [RegE.inE])
    have hj1 : Hd j = true := h1 j (by simp [RegE.inE])
    have ih := wpAnyT_of_U (F := F) (K := K) hl hsel hT hQ r ((listed.setIfInBounds i true).setIfInBounds j true)
    have hh' : ∀ x ∈ r, (∀ k, x.inE k = true → Hd k = true) ∧ ∀ t, t < ops.size → Hd t = false → needsU ops F t x = true := fun x hx => hh x (by simp [hx])
    unfold wpU at h
    have inv2 := (inv.set hri).set hrij
    refine ⟨fun h0 => (by rw [h0] at hri; cases hri), fun k hk => ?_⟩
    rw [hf] at hk
    rcases (by simpa using hk : k = i ∨ k = j) with rfl | rfl
    · refine ⟨hi1, wpOp_mono (fun a1 w1 hh1 => ⟨hh1.1, fun h0 => (by rw [h0] at hrij; cases hrij), fun m hm => ?_⟩) (wpOp_of_O hl hli h.1)⟩
      rw [hfi] at hm
      have hmj : m = j := by simpa using hm
      subst hmj
      exact ⟨hj1, wpOp_mono (fun a2 w2 hh2 => ⟨hh2.1, ih a2 w2 hh' inv2 hB' hh2.1 hh2.2⟩) (wpOp_of_O hl hlj hh1.2)⟩
    · refine ⟨hj1, wpOp_mono (fun a1 w1 hh1 => ⟨hh1.1, fun h0 => (by rw [h0] at hrji; cases hrji), fun m hm => ?_⟩) (wpOp_of_O hl hlj h.2)⟩
      rw [hfj] at hm
      have hmi : m = i := by simpa using hm
      subst hmi
      refine ⟨hi1, wpOp_mono (fun a2 w2 hh2 => ⟨hh2.1, ?_⟩) (wpOp_of_O hl hli hh1.2)⟩
      have := ih a2 w2 hh' inv2 hB' hh2.1 hh2.2
      rw [Array.setIfInBounds_comm _ _ hne] at this
      exact this
/-- one walk serves all orders -/
theorem wp_region_U {id : Nat} {a : Act} {w : World} {l : List Oper} (S : World → Prop) (F : Nat) (hd : List RegE) (tl : List Nat) (hm : P.follows .mixedOrders = true) (hB : takeU l.toArray F hd tl = true) (hsz : l.length = lenU hd + tl.length)
    (hQ : ∀ c a d v w, Q (.panic c) (a.put d v) w → Q (.panic c) a w) (hS : S w.drew)
    (h : wpU P l.toArray Q S (fun a' w' => wpList P l.toArray Q (pickN l tl) a' w') (pickU l hd) a w.drew) : (Code.region id l.toArray true).wp P Q a w := by
  simp only [takeU, Bool.and_eq_true] at hB
  obtain ⟨hsel, hT, hN, hlex⟩ := hB
  have hT' : ∀ t ∈ tl, inU hd t = false := fun t ht => by have := List.all_eq_true.1 hT t ht; simpa using this
  have inv0 : InvT l.toArray (inU hd) (Array.replicate l.toArray.size false) := ⟨by simp, fun j oj _ hl => by
    exfalso
    rcases Nat.lt_or_ge j l.toArray.size with h | h
    · simp at hl
      have : j < l.length := by simpa using h
      simp [this] at hl
    · have h' : ¬ j < l.length := by simpa using h
      simp [h'] at hl⟩
  have hh : ∀ x ∈ hd, (∀ k, x.inE k = true → inU hd k = true) ∧ ∀ t, t < l.toArray.size → inU hd t = false → needsU l.toArray F t x = true := fun x hx => by
    refine ⟨fun k hk => List.any_eq_true.2 ⟨x, hx, hk⟩, fun t ht hf => ?_⟩
    have h1 := List.all_eq_true.1 hN t (List.mem_range.2 ht)
    rw [hf, Bool.false_or] at h1
    exact List.all_eq_true.1 h1 x hx
  refine wp_region_any hm ?_
  have H := wpAnyT_of_U (P := P) (Q := Q) (S := S) (l := l) rfl hsel hT' hQ hd _ a w.drew hh inv0 hlex hS h
  have H2 := wpAny_of_T (g := tl.length) (fun listed' a' w' hL => wpAny_of_seqI (P := P) (Q := Q) (l := l) rfl tl listed' a' w' hL.1 hL.2) (lenU hd) _ a w.drew H
  have e : l.toArray.size = lenU hd + tl.length := by simpa using hsz
  rw [e]
  rw [e] at H2
  exact H2
end
attribute [irreducible] wpU wpO
end Go.Proofs.Ytacpnphfopmofaa
namespace Go.Proofs.Ytacpnphfopmofaa
open Go.RowKit
set_option linter.unusedSimpArgs false
set_option linter.unusedVariables false

set_option maxRecDepth 100000 in
set_option maxHeartbeats 4000000 in
theorem spec_anyGroup (w0 : World) (g : Nat) (n : Int) (w : World) (h : Cur w0 w g n) (hb : Below w0.heap.size w0 w) (hn : n ≤ 1000000000000000) :
    Calls Try.prog 78 #[.pointer (some ⟨g, 0, none⟩)] w fun e w' => (∃ P Q G : Int, e = .returned (.agg #[.int .i64 P, .int .i64 Q, .int .i64 G]) ∧ (-7 ≤ P ∧ P ≤ 2000000010) ∧ (-7 ≤ Q ∧ Q ≤ 2000000010) ∧ (-7 ≤ G ∧ G ≤ 2000000010)) ∧ Cur w0 w' g (n + 10) ∧ Within g (g + 1) w w' := by
  have HC := Lib.hid h
  have hg := h.lt
  have hg0 := h.ge
  have HB0 := Lib.hid hb
  clear h hb
  obtain ⟨W, hW⟩ : ∃ W, W = w.alloc (.cells #[.int .i64 0, .int .i64 0, .int .i64 0] 24) := ⟨_, rfl⟩
  have hbW : Below w.heap.size w W := by rw [hW]; exact (Below.refl _ _).alloc (Nat.le_refl _) _
  have HX : Hid (BoxN W w.heap.size 24 [.int .i64 0, .int .i64 0, .int .i64 0]) := by unfold Hid; rw [hW]; exact BoxN.new w _ _
  have HSW : Hid (W.heap.size = w.heap.size + 1) := by unfold Hid; rw [hW]; simp
  have hsW : w.heap.size < W.heap.size := by have := HSW.out; omega
  replace HC := Lib.hid (HC.out.keep hbW)
  have HBW := Lib.hid hbW
  have HWW : Hid (Within g (g + 1) w W) := Within.of_below hbW
  have HB1 := Lib.hid (Below.next HB0.out hbW)
  clear hbW
  go_enter Try.func78, Try.ntmps78
  go_wp2_with fail
  rw [← hW]
  clear hW
  refine (spec_group w0 g _ _ HC.out HB1.out (by omega)).mono ?_
  rintro e w1 ⟨⟨P, Q, G, rfl, ⟨P1, P2⟩, ⟨Q1, Q2⟩, ⟨G1, G2⟩⟩, hc, hw⟩
  replace HX := Lib.hid (HX.out.kept hw (.inr (by omega)))
  replace HWW := Lib.hid (HWW.out.trans hw)
  replace HB1 := Lib.hid (hw.belowOf HB1.out (by omega))
  replace HC := Lib.hid hc
  have hs1 := hw.size
  clear hc hw
  obtain ⟨V, hV⟩ : ∃ V, V = w1.alloc (.cells #[.int .i64 P, .int .i64 Q, .int .i64 G] 24) := ⟨_, rfl⟩
  have hbV : Below w1.heap.size w1 V := by rw [hV]; exact (Below.refl _ _).alloc (Nat.le_refl _) _
  have HZ : Hid (BoxN V w1.heap.size 24 [.int .i64 P, .int .i64 Q, .int .i64 G]) := by unfold Hid; rw [hV]; exact BoxN.new w1 _ _
  have HSV : Hid (V.heap.size = w1.heap.size + 1) := by unfold Hid; rw [hV]; simp
  go_wp2_with fail
  rw [← hV]
  clear hV
  replace HX := Lib.hid (HX.out.below hbV)
  replace HWW := Lib.hid (HWW.out.trans (Within.of_below hbV))
  replace HB1 := Lib.hid (Below.next HB1.out hbV)
  replace HC := Lib.hid (HC.out.keep hbV)
  have hsV : w1.heap.size < V.heap.size := by have := HSV.out; omega
  clear hbV
  refine (spec_pick w0 g _ 24 _ HC.out HB1.out (by omega)).mono ?_
  rintro e w2 ⟨⟨i, rfl, hi0, _, hi2, _⟩, hc, hw⟩
  clear hi2
  replace HX := Lib.hid (HX.out.kept hw (.inr (by omega)))
  replace HZ := Lib.hid (HZ.out.kept hw (.inr (by omega)))
  replace HWW := Lib.hid (HWW.out.trans hw)
  replace HB1 := Lib.hid (hw.belowOf HB1.out (by omega))
  replace HC := Lib.hid hc
  have hs2 := hw.size
  clear hc hw HSV
  obtain ⟨V, rfl⟩ : ∃ u, u = w2 := ⟨_, rfl⟩
  have z0' := HZ.out.cell (i := 0) rfl
  have z1' := HZ.out.cell (i := 1) rfl
  have z2' := HZ.out.cell (i := 2) rfl
  have e1 : IntKind.i64.wrap (P + 2) = P + 2 := IntWalk.i64_in _ (by omega)
  have e2 : IntKind.i64.wrap (Q + 1) = Q + 1 := IntWalk.i64_in _ (by omega)
  have e3 : IntKind.i64.wrap (P - 1) = P - 1 := IntWalk.i64_in _ (by omega)
  have e4 : IntKind.i64.wrap (G + 1) = G + 1 := IntWalk.i64_in _ (by omega)
  rcases (by omega : i = 0 ∨ i = 1 ∨ i = 2 ∨ (i ≠ 0 ∧ i ≠ 1 ∧ i ≠ 2)) with rfl | rfl | rfl | ⟨i0, i1, i2⟩
  · go_wp2_with fail
    refine (spec_among w0 g _ _ [0, P + 2, 4, -7] _ (HC.out.keep ((Below.refl _ _).alloc (Nat.le_refl _) _)) (HB1.out.alloc HB1.out.size _) (by omega) (Apart.of_ownI (OwnI.lit V (Nat.le_refl _) (lit_I64 (by simp; omega)) (by rfl) (by simp; decide) 4 rfl) (by omega)) (by simp)).mono ?_
    rintro e w3 ⟨⟨x, rfl, hx⟩, hc, hw⟩
    have hxb : -7 ≤ x ∧ x ≤ 2000000010 := by
      simp only [List.mem_cons, List.not_mem_nil, or_false] at hx
      omega
    have hw3 : Within g (g + 1) V w3 := (Within.of_below ((Below.refl _ _).alloc (Nat.le_refl _) _)).trans hw
    have HZ3 := Lib.hid (HZ.out.kept hw3 (.inr (by omega)))
    have HX3 := Lib.hid (HX.out.kept hw3 (.inr (by omega)))
    have HW3 := Lib.hid (HWW.out.trans hw3)
    have HC3 := Lib.hid hc
    have hs3 := hw3.size
    clear hc hw hw3 hx z0' z1' z2'
    have q0 := HZ3.out.cell (i := 0) rfl
    have q1 := HZ3.out.cell (i := 1) rfl
    have q2 := HZ3.out.cell (i := 2) rfl
    have fq := fun j => HZ3.out.frozen j
    have HZ6 := Lib.hid (HZ3.out.set 0 (.int .i64 x))
    have HX6 := Lib.hid (HX3.out.other (b' := w1.heap.size) (by omega) 0 (.int .i64 x))
    have HBs : Hid (Below w.heap.size w3 (w3.setCell ⟨w1.heap.size, 0, none⟩ (.int .i64 x))) := (Below.refl w.heap.size _).setCell (by show w.heap.size ≤ w1.heap.size; omega) _
    have r0 := HX6.out.cell (i := 0) rfl
    have r1 := HX6.out.cell (i := 1) rfl
    have r2 := HX6.out.cell (i := 2) rfl
    have fr := fun j => HX6.out.frozen j
    go_wp2_with fail
    clear q0 q1 q2 fq
    obtain ⟨Y, hY⟩ : ∃ Y, Y = ((((w3.setCell ⟨w1.heap.size, 0, none⟩ (.int .i64 x)).setCell ⟨w.heap.size, 0, none⟩ (.int .i64 x)).setCell ⟨w.heap.size, 1, none⟩ (.int .i64 Q)).setCell ⟨w.heap.size, 2, none⟩ (.int .i64 G)) := ⟨_, rfl⟩
    have HXY : Hid (BoxN Y w.heap.size 24 [.int .i64 x, .int .i64 Q, .int .i64 G]) := by unfold Hid; rw [hY]; exact (((HX6.out).set 0 _).set 1 _).set 2 _
    have HBY : Hid (Below w.heap.size ((w3.setCell ⟨w1.heap.size, 0, none⟩ (.int .i64 x))) Y) := by unfold Hid; rw [hY]; exact (((Below.refl w.heap.size _).setCell (Nat.le_refl _) _).setCell (Nat.le_refl _) _).setCell (Nat.le_refl _) _
    rw [← hY]
    clear hY r0 r1 r2 fr
    have r0 := HXY.out.cell (i := 0) rfl
    have r1 := HXY.out.cell (i := 1) rfl
    have r2 := HXY.out.cell (i := 2) rfl
    refine bodyPost_ret (v := .agg #[.int .i64 x, .int .i64 Q, .int .i64 G]) (by simp [results, Try.results78, go_sem, r0, r1, r2]) rfl ⟨⟨_, _, _, rfl, ⟨by omega, by omega⟩, ⟨by omega, by omega⟩, ⟨by omega, by omega⟩⟩, ((HC3.out.belowB HBs.out hg).belowB HBY.out hg).mono (by omega), (HW3.out.belowStep HBs.out).belowStep HBY.out⟩
  · go_wp2_with fail
    refine (spec_among w0 g _ _ [0, 1, Q + 1, P - 1] _ (HC.out.keep ((Below.refl _ _).alloc (Nat.le_refl _) _)) (HB1.out.alloc HB1.out.size _) (by omega) (Apart.of_ownI (OwnI.lit V (Nat.le_refl _) (lit_I64 (by simp; omega)) (by rfl) (by simp; decide) 4 rfl) (by omega)) (by simp)).mono ?_
    rintro e w3 ⟨⟨x, rfl, hx⟩, hc, hw⟩
    have hxb : -7 ≤ x ∧ x ≤ 2000000010 := by
      simp only [List.mem_cons, List.not_mem_nil, or_false] at hx
      omega
    have hw3 : Within g (g + 1) V w3 := (Within.of_below ((Below.refl _ _).alloc (Nat.le_refl _) _)).trans hw
    have HZ3 := Lib.hid (HZ.out.kept hw3 (.inr (by omega)))
    have HX3 := Lib.hid (HX.out.kept hw3 (.inr (by omega)))
    have HW3 := Lib.hid (HWW.out.trans hw3)
    have HC3 := Lib.hid hc
    have hs3 := hw3.size
    clear hc hw hw3 hx z0' z1' z2'
    have q0 := HZ3.out.cell (i := 0) rfl
    have q1 := HZ3.out.cell (i := 1) rfl
    have q2 := HZ3.out.cell (i := 2) rfl
    have fq := fun j => HZ3.out.frozen j
    have HZ6 := Lib.hid (HZ3.out.set 1 (.int .i64 x))
    have HX6 := Lib.hid (HX3.out.other (b' := w1.heap.size) (by omega) 1 (.int .i64 x))
    have HBs : Hid (Below w.heap.size w3 (w3.setCell ⟨w1.heap.size, 1, none⟩ (.int .i64 x))) := (Below.refl w.heap.size _).setCell (by show w.heap.size ≤ w1.heap.size; omega) _
    have r0 := HX6.out.cell (i := 0) rfl
    have r1 := HX6.out.cell (i := 1) rfl
    have r2 := HX6.out.cell (i := 2) rfl
    have fr := fun j => HX6.out.frozen j
    go_wp2_with fail
    clear q0 q1 q2 fq
    obtain ⟨Y, hY⟩ : ∃ Y, Y = ((((w3.setCell ⟨w1.heap.size, 1, none⟩ (.int .i64 x)).setCell ⟨w.heap.size, 0, none⟩ (.int .i64 P)).setCell ⟨w.heap.size, 1, none⟩ (.int .i64 x)).setCell ⟨w.heap.size, 2, none⟩ (.int .i64 G)) := ⟨_, rfl⟩
    have HXY : Hid (BoxN Y w.heap.size 24 [.int .i64 P, .int .i64 x, .int .i64 G]) := by unfold Hid; rw [hY]; exact (((HX6.out).set 0 _).set 1 _).set 2 _
    have HBY : Hid (Below w.heap.size ((w3.setCell ⟨w1.heap.size, 1, none⟩ (.int .i64 x))) Y) := by unfold Hid; rw [hY]; exact (((Below.refl w.heap.size _).setCell (Nat.le_refl _) _).setCell (Nat.le_refl _) _).setCell (Nat.le_refl _) _
    rw [← hY]
    clear hY r0 r1 r2 fr
    have r0 := HXY.out.cell (i := 0) rfl
    have r1 := HXY.out.cell (i := 1) rfl
    have r2 := HXY.out.cell (i := 2) rfl
    refine bodyPost_ret (v := .agg #[.int .i64 P, .int .i64 x, .int .i64 G]) (by simp [results, Try.results78, go_sem, r0, r1, r2]) rfl ⟨⟨_, _, _, rfl, ⟨by omega, by omega⟩, ⟨by omega, by omega⟩, ⟨by omega, by omega⟩⟩, ((HC3.out.belowB HBs.out hg).belowB HBY.out hg).mono (by omega), (HW3.out.belowStep HBs.out).belowStep HBY.out⟩
  · go_wp2_with fail
    refine (spec_among w0 g _ _ [0, 1, P - 1, P, G + 1] _ (HC.out.keep ((Below.refl _ _).alloc (Nat.le_refl _) _)) (HB1.out.alloc HB1.out.size _) (by omega) (Apart.of_ownI (OwnI.lit V (Nat.le_refl _) (lit_I64 (by simp; omega)) (by rfl) (by simp; decide) 5 rfl) (by omega)) (by simp)).mono ?_
    rintro e w3 ⟨⟨x, rfl, hx⟩, hc, hw⟩
    have hxb : -7 ≤ x ∧ x ≤ 2000000010 := by
      simp only [List.mem_cons, List.not_mem_nil, or_false] at hx
      omega
    have hw3 : Within g (g + 1) V w3 := (Within.of_below ((Below.refl _ _).alloc (Nat.le_refl _) _)).trans hw
    have HZ3 := Lib.hid (HZ.out.kept hw3 (.inr (by omega)))
    have HX3 := Lib.hid (HX.out.kept hw3 (.inr (by omega)))
    have HW3 := Lib.hid (HWW.out.trans hw3)
    have HC3 := Lib.hid hc
    have hs3 := hw3.size
    clear hc hw hw3 hx z0' z1' z2'
    have q0 := HZ3.out.cell (i := 0) rfl
    have q1 := HZ3.out.cell (i := 1) rfl
    have q2 := HZ3.out.cell (i := 2) rfl
    have fq := fun j => HZ3.out.frozen j
    have HZ6 := Lib.hid (HZ3.out.set 2 (.int .i64 x))
    have HX6 := Lib.hid (HX3.out.other (b' := w1.heap.size) (by omega) 2 (.int .i64 x))
    have HBs : Hid (Below w.heap.size w3 (w3.setCell ⟨w1.heap.size, 2, none⟩ (.int .i64 x))) := (Below.refl w.heap.size _).setCell (by show w.heap.size ≤ w1.heap.size; omega) _
    have r0 := HX6.out.cell (i := 0) rfl
    have r1 := HX6.out.cell (i := 1) rfl
    have r2 := HX6.out.cell (i := 2) rfl
    have fr := fun j => HX6.out.frozen j
    go_wp2_with fail
    clear q0 q1 q2 fq
    obtain ⟨Y, hY⟩ : ∃ Y, Y = ((((w3.setCell ⟨w1.heap.size, 2, none⟩ (.int .i64 x)).setCell ⟨w.heap.size, 0, none⟩ (.int .i64 P)).setCell ⟨w.heap.size, 1, none⟩ (.int .i64 Q)).setCell ⟨w.heap.size, 2, none⟩ (.int .i64 x)) := ⟨_, rfl⟩
    have HXY : Hid (BoxN Y w.heap.size 24 [.int .i64 P, .int .i64 Q, .int .i64 x]) := by unfold Hid; rw [hY]; exact (((HX6.out).set 0 _).set 1 _).set 2 _
    have HBY : Hid (Below w.heap.size ((w3.setCell ⟨w1.heap.size, 2, none⟩ (.int .i64 x))) Y) := by unfold Hid; rw [hY]; exact (((Below.refl w.heap.size _).setCell (Nat.le_refl _) _).setCell (Nat.le_refl _) _).setCell (Nat.le_refl _) _
    rw [← hY]
    clear hY r0 r1 r2 fr
    have r0 := HXY.out.cell (i := 0) rfl
    have r1 := HXY.out.cell (i := 1) rfl
    have r2 := HXY.out.cell (i := 2) rfl
    refine bodyPost_ret (v := .agg #[.int .i64 P, .int .i64 Q, .int .i64 x]) (by simp [results, Try.results78, go_sem, r0, r1, r2]) rfl ⟨⟨_, _, _, rfl, ⟨by omega, by omega⟩, ⟨by omega, by omega⟩, ⟨by omega, by omega⟩⟩, ((HC3.out.belowB HBs.out hg).belowB HBY.out hg).mono (by omega), (HW3.out.belowStep HBs.out).belowStep HBY.out⟩
  · have j0 : (i == 0) = false := by rw [beq_eq_false_iff_ne]; exact i0
    have j1 : (i == 1) = false := by rw [beq_eq_false_iff_ne]; exact i1
    have j2 : (i == 2) = false := by rw [beq_eq_false_iff_ne]; exact i2
    have r0 := HX.out.cell (i := 0) rfl
    have r1 := HX.out.cell (i := 1) rfl
    have r2 := HX.out.cell (i := 2) rfl
    have fr := fun j => HX.out.frozen j
    go_wp2_with fail
    clear z0' z1' z2'
    obtain ⟨Y, hY⟩ : ∃ Y, Y = (((V.setCell ⟨w.heap.size, 0, none⟩ (.int .i64 P)).setCell ⟨w.heap.size, 1, none⟩ (.int .i64 Q)).setCell ⟨w.heap.size, 2, none⟩ (.int .i64 G)) := ⟨_, rfl⟩
    have HXY : Hid (BoxN Y w.heap.size 24 [.int .i64 P, .int .i64 Q, .int .i64 G]) := by unfold Hid; rw [hY]; exact (((HX.out).set 0 _).set 1 _).set 2 _
    have HBY : Hid (Below w.heap.size (V) Y) := by unfold Hid; rw [hY]; exact (((Below.refl w.heap.size _).setCell (Nat.le_refl _) _).setCell (Nat.le_refl _) _).setCell (Nat.le_refl _) _
    rw [← hY]
    clear hY r0 r1 r2 fr
    have r0 := HXY.out.cell (i := 0) rfl
    have r1 := HXY.out.cell (i := 1) rfl
    have r2 := HXY.out.cell (i := 2) rfl
    refine bodyPost_ret (v := .agg #[.int .i64 P, .int .i64 Q, .int .i64 G]) (by simp [results, Try.results78, go_sem, r0, r1, r2]) rfl ⟨⟨_, _, _, rfl, ⟨by omega, by omega⟩, ⟨by omega, by omega⟩, ⟨by omega, by omega⟩⟩, ((HC.out).belowB HBY.out hg).mono (by omega), (HWW.out).belowStep HBY.out⟩
end Go.Proofs.Ytacpnphfopmofaa
