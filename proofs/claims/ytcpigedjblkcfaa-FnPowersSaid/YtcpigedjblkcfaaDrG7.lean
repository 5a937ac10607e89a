/- Draws: products of powers, logarithms. -/
import Derived.Test.YtcpigedjblkcfaaDrG6
import Derived.Test.YtcpigedjblkcfaaRegV
namespace Go.Proofs.Ytcpigedjblkcfaa
open Go.RowKit
set_option linter.unusedSimpArgs false
set_option linter.unusedVariables false

set_option maxRecDepth 100000 in
set_option maxHeartbeats 4000000 in
theorem spec_DrawProductOfPowers (v : Value) (w : World) (h : Bytes w v) :
    Calls Try.prog 45 #[v] w fun e w' => (∃ P Q G v1 v2, e = .returned (.tuple #[.agg #[.int .i64 P, .int .i64 Q, .int .i64 G], v1, v2]) ∧ GrB ⟨P, Q, G⟩ ∧ ∃ l es, Ints w' v1 l ∧ Ints w' v2 es ∧ l.length ≤ 60 ∧ es.length ≤ 100) ∧ Below w.heap.size w w' := by
  obtain ⟨a, m, c, rfl, hk1, hk2, hv⟩ := h
  have HY : Hid (Bytes w (.slice a m c)) := ⟨a, m, c, rfl, hk1, hk2, hv⟩
  clear hv
  unfold maxLen at hk2
  obtain ⟨U, hU⟩ : ∃ U, U = w.alloc (.cells #[.int .i64 0, .int .i64 0, .int .i64 0] 30) := ⟨_, rfl⟩
  have hbU : Below w.heap.size w U := by rw [hU]; exact (Below.refl _ _).alloc (Nat.le_refl _) _
  have HX : Hid (BoxN U w.heap.size 30 [.int .i64 0, .int .i64 0, .int .i64 0]) := by unfold Hid; rw [hU]; exact BoxN.new w _ _
  have hsU : U.heap.size = w.heap.size + 1 := by rw [hU]; simp
  obtain ⟨W, hW⟩ : ∃ W, W = U.alloc (.cells #[.slice a m c, .int .i64 0, .int .u64 0] 171) := ⟨_, rfl⟩
  have HC : Hid (Cur U W U.heap.size 0) := by unfold Hid; rw [hW]; exact Cur.new U (HY.out.below hbU)
  have hbW : Below U.heap.size U W := by rw [hW]; exact (Below.refl _ _).alloc (Nat.le_refl _) _
  have HBW := Lib.hid (Below.next hbU hbW)
  have HUB := Lib.hid hbW
  replace HX := Lib.hid (HX.out.below hbW)
  obtain ⟨g, hg⟩ : ∃ g, g = U.heap.size := ⟨_, rfl⟩
  have HSU : Hid (w.heap.size + 1 = g) := by unfold Hid; rw [hg, hsU]
  go_enter Try.func45, Try.ntmps45
  go_wp2_with fail
  rw [← hU, ← hW]
  rw [HSU.out]
  rw [← hg] at HC HUB
  have HUS : Hid (U.heap.size = g) := hg.symm
  have hwg : w.heap.size < g := by have := HSU.out; omega
  have HW := Lib.hid (Within.refl g (g + 1) W)
  have HUC : Hid (Below U.heap.size U W) := by unfold Hid; rw [HUS.out]; exact HUB.out
  clear hU hW hbU hbW hsU hg
  refine (spec_anyGroup U g 0 _ HC.out HUC.out (by omega)).mono ?_
  rintro e w1 ⟨⟨P, Q, G, rfl, P1, Q1, G1⟩, hc, hw⟩
  have HGR : Hid (GrB ⟨P, Q, G⟩) := ⟨P1, Q1, G1⟩
  clear P1 Q1 G1
  have hs1 := hw.size
  replace HX := Lib.hid (HX.out.kept hw (.inl (by omega)))
  replace HW := Lib.hid (HW.out.trans hw)
  replace HC := Lib.hid hc
  clear hc hw
  obtain ⟨V, hV⟩ : ∃ V, V = w1.alloc (.cells #[.int .i64 P, .int .i64 Q, .int .i64 G] 30) := ⟨_, rfl⟩
  have hbV : Below w1.heap.size w1 V := by rw [hV]; exact (Below.refl _ _).alloc (Nat.le_refl _) _
  have HZ : Hid (BoxN V w1.heap.size 30 [.int .i64 P, .int .i64 Q, .int .i64 G]) := by unfold Hid; rw [hV]; exact BoxN.new w1 _ _
  have hgc : g < w1.heap.size := HC.out.lt
  go_wp2_with fail
  rw [← hV]
  clear hV
  replace HX := Lib.hid (HX.out.below hbV)
  replace HW := Lib.hid (HW.out.trans (Within.of_below hbV))
  replace HC := Lib.hid (HC.out.keep hbV)
  have hsV := hbV.size
  clear hbV
  refine (spec_elements U g _ P Q G 5 _ HC.out (HW.out.belowOf HUC.out (Nat.le_of_eq HUS.out)) (by omega) HGR.out (by omega)).mono ?_
  rintro e w2 ⟨⟨v1, rfl, l, hl, hll⟩, hc, hw⟩
  have HL := Lib.hid hl
  replace HZ := Lib.hid (HZ.out.kept hw (.inr (by omega)))
  have hs2 := hw.size
  replace HX := Lib.hid (HX.out.kept hw (.inl (by omega)))
  replace HW := Lib.hid (HW.out.trans hw)
  replace HC := Lib.hid hc
  clear hc hw
  obtain ⟨a1, n1, c1, rfl⟩ := hl.here.shape
  have hgV : g + 1 ≤ V.heap.size := by omega
  have hln : n1 ≤ 60 := by have := hl.here.len; omega
  clear hl
  have z0 := HZ.out.cell (i := 0) rfl
  have z1 := HZ.out.cell (i := 1) rfl
  have z2 := HZ.out.cell (i := 2) rfl
  go_wp2_with fail
  refine wp_region_noPanic ?_
  refine wp_region_V (fun w' => Within w.heap.size (g + 1) w2 w' ∧ w'.cell? ⟨w1.heap.size, 0, none⟩ = some (.int .i64 P) ∧ w'.cell? ⟨w1.heap.size, 1, none⟩ = some (.int .i64 Q) ∧ w'.cell? ⟨w1.heap.size, 2, none⟩ = some (.int .i64 G)) 16 10 (.rd 0 (.rd 1 (.rd 2 (.rd 3 (.rd 4 (.rd 5 (.alt 6 (.alt 7 (.rd 8 (.rd 9 .done)) .nil) .nil))))))) [] (by kernel_rfl) (by kernel_rfl) rfl (fun _ _ _ _ _ h => h) ⟨(Within.refl _ _ _).drew, z0, z1, z2⟩ ?_
  simp only [pickV, pickN, List.getElem?_cons_zero, List.getElem?_cons_succ]
  have hwz : Within g (g + 1) w2 w2.drew := (Within.refl _ _ _).drew
  repeat (refine' wpV_read _ (by kernel_rfl) (fun w' hS' => ?_) ?_; rotate_left; · ((try dsimp only at hS'); go_simp; (try with_reducible rfl)); (try simp only [Act.put, List.setIfInBounds_toArray, List.set_cons_zero, List.set_cons_succ]))
  refine wpV_do (by kernel_rfl) (fun K hK => ?_)
  go_simp
  go_at_call 130
  refine (spec_anyCoins U g _ P Q G n1 _ (HC.out.keep (Below.refl _ _).drew) ((HW.out.trans hwz).belowOf HUC.out (Nat.le_of_eq HUS.out)) (by omega) HGR.out (by omega)).mono ?_
  rintro e w3 ⟨⟨v2, es, rfl, he, hel⟩, hc, hw⟩
  have hw3 := hwz.trans hw
  have HE := Lib.hid he
  replace HL := Lib.hid (HL.out.within hw3 hgV)
  have hg2 : g + 1 ≤ w2.drew.heap.size := by show g + 1 ≤ w2.heap.size; omega
  clear he
  have hv3 : Within w.heap.size (g + 1) w2 w3 := hw3.mono (by omega) (Nat.le_refl _)
  refine hK.out _ _ ⟨hv3, within_at hw3 z0 (.inr (by omega)), within_at hw3 z1 (.inr (by omega)), within_at hw3 z2 (.inr (by omega))⟩ (fun _ => ?_)
  clear hK K hwz
  try simp only [Act.put, List.setIfInBounds_toArray, List.set_cons_zero, List.set_cons_succ]
  replace hw := hw3
  replace HX := Lib.hid (HX.out.kept hw (.inl (by omega)))
  have HB3 := Lib.hid ((HW.out.trans hw).belowOf HBW.out (by omega))
  have hs3 := hw3.size
  clear hw hc hw3
  have r0 := HX.out.cell (i := 0) rfl
  have r1 := HX.out.cell (i := 1) rfl
  have r2 := HX.out.cell (i := 2) rfl
  have fr := fun j => HX.out.frozen j
  refine wpV_do (by kernel_rfl) (fun K hK => ?_)
  go_simp
  have hv4 : Within w.heap.size (g + 1) w2 (((w3.setCell ⟨w.heap.size, 0, none⟩ (.int .i64 P)).setCell ⟨w.heap.size, 1, none⟩ (.int .i64 Q)).setCell ⟨w.heap.size, 2, none⟩ (.int .i64 G)) := ((hv3.setCell (Nat.le_refl _) (by omega) _ _).setCell (Nat.le_refl _) (by omega) _ _).setCell (Nat.le_refl _) (by omega) _ _
  obtain ⟨Y, hY⟩ : ∃ Y, Y = (((w3.setCell ⟨w.heap.size, 0, none⟩ (.int .i64 P)).setCell ⟨w.heap.size, 1, none⟩ (.int .i64 Q)).setCell ⟨w.heap.size, 2, none⟩ (.int .i64 G)) := ⟨_, rfl⟩
  have HXY : Hid (BoxN Y w.heap.size 30 [.int .i64 P, .int .i64 Q, .int .i64 G]) := by unfold Hid; rw [hY]; exact ((HX.out.set 0 _).set 1 _).set 2 _
  have HBY : Hid (Below w.heap.size w3 Y) := by unfold Hid; rw [hY]; exact (((Below.refl w.heap.size _).setCell (Nat.le_refl _) _).setCell (Nat.le_refl _) _).setCell (Nat.le_refl _) _
  have HYS : Hid (Within w.heap.size (w.heap.size + 1) w3 Y) := by unfold Hid; rw [hY]; exact (((Within.refl _ _ _).setCell (Nat.le_refl _) (Nat.lt_succ_self _) _ _).setCell (Nat.le_refl _) (Nat.lt_succ_self _) _ _).setCell (Nat.le_refl _) (Nat.lt_succ_self _) _ _
  rw [← hY] at hv4 ⊢
  clear hY r0 r1 r2 fr
  refine hK.out _ _ ⟨hv4, within_at hv4 z0 (.inr (by omega)), within_at hv4 z1 (.inr (by omega)), within_at hv4 z2 (.inr (by omega))⟩ (fun _ => ?_)
  clear hK K hv3 hv4 z0 z1 z2
  try simp only [Act.put, List.setIfInBounds_toArray, List.set_cons_zero, List.set_cons_succ]
  repeat (refine' wpV_read _ (by kernel_rfl) (fun w' hS' => ?_) ?_; rotate_left; · ((try dsimp only at hS'); go_simp; (try with_reducible rfl)); (try simp only [Act.put, List.setIfInBounds_toArray, List.set_cons_zero, List.set_cons_succ]))
  refine wpV_done ?_
  go_wp2_with fail
  refine NoPanic.normal ?_
  have r0 := HXY.out.cell (i := 0) rfl
  have r1 := HXY.out.cell (i := 1) rfl
  have r2 := HXY.out.cell (i := 2) rfl
  go_wp2_with fail
  refine bodyPost_ret (v := .tuple #[.agg #[.int .i64 P, .int .i64 Q, .int .i64 G], .slice a1 n1 c1, v2]) (by simp [results, Try.results45, go_sem, r0, r1, r2]) rfl ⟨⟨P, Q, G, _, _, rfl, HGR.out, l, es, (HL.out.within HYS.out (by omega)).here, (HE.out.within HYS.out (by omega)).here, hll, by omega⟩, HB3.out.trans HBY.out⟩
set_option maxRecDepth 100000 in
set_option maxHeartbeats 8000000 in
theorem spec_DrawLogOf (v : Value) (w : World) (h : Bytes w v) :
    Calls Try.prog 48 #[v] w fun e w' => (∃ P Q G B Y M, e = .returned (.tuple #[.agg #[.int .i64 P, .int .i64 Q, .int .i64 G], .int .i64 B, .int .i64 Y, .int .i64 M]) ∧ GrB ⟨P, Q, G⟩ ∧ I64 B ∧ I64 Y ∧ I64 M) ∧ Below w.heap.size w w' := by
  obtain ⟨a, m, c, rfl, hk1, hk2, hv⟩ := h
  have HY : Hid (Bytes w (.slice a m c)) := ⟨a, m, c, rfl, hk1, hk2, hv⟩
  clear hv
  unfold maxLen at hk2
  obtain ⟨U, hU⟩ : ∃ U, U = w.alloc (.cells #[.int .i64 0, .int .i64 0, .int .i64 0] 30) := ⟨_, rfl⟩
  have hbU : Below w.heap.size w U := by rw [hU]; exact (Below.refl _ _).alloc (Nat.le_refl _) _
  have HX : Hid (BoxN U w.heap.size 30 [.int .i64 0, .int .i64 0, .int .i64 0]) := by unfold Hid; rw [hU]; exact BoxN.new w _ _
  have hsU : U.heap.size = w.heap.size + 1 := by rw [hU]; simp
  obtain ⟨W, hW⟩ : ∃ W, W = U.alloc (.cells #[.slice a m c, .int .i64 0, .int .u64 0] 171) := ⟨_, rfl⟩
  have HC : Hid (Cur U W U.heap.size 0) := by unfold Hid; rw [hW]; exact Cur.new U (HY.out.below hbU)
  have hbW : Below U.heap.size U W := by rw [hW]; exact (Below.refl _ _).alloc (Nat.le_refl _) _
  have HBW := Lib.hid (Below.next hbU hbW)
  have HUB := Lib.hid hbW
  replace HX := Lib.hid (HX.out.below hbW)
  obtain ⟨g, hg⟩ : ∃ g, g = U.heap.size := ⟨_, rfl⟩
  have HSU : Hid (w.heap.size + 1 = g) := by unfold Hid; rw [hg, hsU]
  go_enter Try.func48, Try.ntmps48
  go_wp2_with fail
  rw [← hU, ← hW]
  rw [HSU.out]
  rw [← hg] at HC HUB
  have HUS : Hid (U.heap.size = g) := hg.symm
  have hwg : w.heap.size < g := by have := HSU.out; omega
  have HW := Lib.hid (Within.refl g (g + 1) W)
  have HUC : Hid (Below U.heap.size U W) := by unfold Hid; rw [HUS.out]; exact HUB.out
  clear hU hW hbU hbW hsU hg
  refine (spec_anyGroup U g 0 _ HC.out HUC.out (by omega)).mono ?_
  rintro e w1 ⟨⟨P, Q, G, rfl, P1, Q1, G1⟩, hc, hw⟩
  have HGR : Hid (GrB ⟨P, Q, G⟩) := ⟨P1, Q1, G1⟩
  obtain ⟨P1, P2⟩ := P1
  obtain ⟨Q1, Q2⟩ := Q1
  have hs1 := hw.size
  replace HX := Lib.hid (HX.out.kept hw (.inl (by omega)))
  replace HW := Lib.hid (HW.out.trans hw)
  replace HC := Lib.hid hc
  clear hc hw
  obtain ⟨V, hV⟩ : ∃ V, V = w1.alloc (.cells #[.int .i64 P, .int .i64 Q, .int .i64 G] 30) := ⟨_, rfl⟩
  have hbV : Below w1.heap.size w1 V := by rw [hV]; exact (Below.refl _ _).alloc (Nat.le_refl _) _
  have HZ : Hid (BoxN V w1.heap.size 30 [.int .i64 P, .int .i64 Q, .int .i64 G]) := by unfold Hid; rw [hV]; exact BoxN.new w1 _ _
  have hgc : g < w1.heap.size := HC.out.lt
  go_wp2_with fail
  rw [← hV]
  clear hV
  replace HX := Lib.hid (HX.out.below hbV)
  replace HW := Lib.hid (HW.out.trans (Within.of_below hbV))
  replace HC := Lib.hid (HC.out.keep hbV)
  have hsV := hbV.size
  clear hbV
  refine (spec_anyElement U g _ P Q G _ HC.out (HW.out.belowOf HUC.out (Nat.le_of_eq HUS.out)) (by omega) HGR.out).mono ?_
  rintro e w2 ⟨⟨B, rfl, hB0, hB1⟩, hc, hw⟩
  replace HZ := Lib.hid (HZ.out.kept hw (.inr (by omega)))
  have hs2 := hw.size
  replace HX := Lib.hid (HX.out.kept hw (.inl (by omega)))
  replace HW := Lib.hid (HW.out.trans hw)
  replace HC := Lib.hid hc
  clear hc hw
  go_wp2_with fail
  refine (spec_one U g _ 2 _ HC.out (HW.out.belowOf HUC.out (Nat.le_of_eq HUS.out)) (by omega)).mono ?_
  rintro e w2b ⟨⟨q, rfl⟩, hc, hw⟩
  replace HZ := Lib.hid (HZ.out.kept hw (.inr (by omega)))
  have hs2b := hw.size
  replace HX := Lib.hid (HX.out.kept hw (.inl (by omega)))
  replace HW := Lib.hid (HW.out.trans hw)
  replace HC := Lib.hid hc
  clear hc hw
  obtain ⟨w2, rfl⟩ : ∃ u, u = w2b := ⟨_, rfl⟩
  have z0 := HZ.out.cell (i := 0) rfl
  have z1 := HZ.out.cell (i := 1) rfl
  have z2 := HZ.out.cell (i := 2) rfl
  cases q with
  | false =>
    go_wp2_with fail
    refine wp_region_noPanic ?_
    refine wp_region_V (fun w' => Within w.heap.size (g + 1) w2 w' ∧ w'.cell? ⟨w1.heap.size, 0, none⟩ = some (.int .i64 P) ∧ w'.cell? ⟨w1.heap.size, 1, none⟩ = some (.int .i64 Q) ∧ w'.cell? ⟨w1.heap.size, 2, none⟩ = some (.int .i64 G)) 20 12 (.rd 0 (.rd 1 (.rd 2 (.rd 3 (.rd 5 (.alt 4 (.alt 6 (.alt 7 (.alt 8 (.rd 9 (.rd 10 (.rd 11 .done))) .nil) .nil) .nil) (.alt 6 (.alt 4 (.alt 7 (.alt 8 (.rd 9 (.rd 10 (.rd 11 .done))) .nil) .nil) .nil) .nil))))))) [] (by kernel_rfl) (by kernel_rfl) rfl (fun _ _ _ _ _ h => h) ⟨(Within.refl _ _ _).drew, z0, z1, z2⟩ ?_
    simp only [pickV, pickN, List.getElem?_cons_zero, List.getElem?_cons_succ]
    have hwz : Within g (g + 1) w2 w2.drew := (Within.refl _ _ _).drew
    repeat (refine' wpV_read _ (by kernel_rfl) (fun w' hS' => ?_) ?_; rotate_left; · ((try dsimp only at hS'); go_simp; (try with_reducible rfl)); (try simp only [Act.put, List.setIfInBounds_toArray, List.set_cons_zero, List.set_cons_succ]))
    refine wpV_or (by kernel_rfl) (fun K hK => ?_) ?_
    · skip
      go_simp
      go_at_call 138
      refine (spec_anyElement U g _ P Q G _ (HC.out.keep (Below.refl _ _).drew) ((HW.out.trans hwz).belowOf HUC.out (Nat.le_of_eq HUS.out)) (by omega) HGR.out).mono ?_
      rintro e w3 ⟨⟨y, rfl, y0, y1⟩, hc, hw⟩
      have hw3 := hwz.trans hw
      have HC3 := Lib.hid hc
      have hqw3 := hw3.size
      clear hc hw
      refine hK.out _ _ ⟨hw3.mono (by omega) (Nat.le_refl _), within_at hw3 z0 (.inr (by omega)), within_at hw3 z1 (.inr (by omega)), within_at hw3 z2 (.inr (by omega))⟩ (fun _ => ?_)
      clear hK K
      try simp only [Act.put, List.setIfInBounds_toArray, List.set_cons_zero, List.set_cons_succ]
      refine wpV_do (by kernel_rfl) (fun K hK => ?_)
      go_simp
      have hw4 : Within g (g + 1) w2 (w3.alloc (.cells #[.int .i64 0, .int .i64 5, .int .i64 25, .int .i64 1000, .int .i64 1000000, .int .i64 1000001, .int .i64 (-1)] 3)) := hw3.allocR _
      refine hK.out _ _ ⟨hw4.mono (by omega) (Nat.le_refl _), within_at hw4 z0 (.inr (by omega)), within_at hw4 z1 (.inr (by omega)), within_at hw4 z2 (.inr (by omega))⟩ (fun _ => ?_)
      clear hK K
      try simp only [Act.put, List.setIfInBounds_toArray, List.set_cons_zero, List.set_cons_succ]
      refine wpV_do (by kernel_rfl) (fun K hK => ?_)
      go_simp
      go_at_call 142
      refine (spec_among U g _ _ [0, 5, 25, 1000, 1000000, 1000001, -1] _ (HC3.out.keep ((Below.refl _ _).alloc (Nat.le_refl _) _)) ((HW.out.trans hw4).belowOf HUC.out (Nat.le_of_eq HUS.out)) (by omega) (Apart.of_ownI (OwnI.lit w3 (Nat.le_refl _) (lit_I64 rfl) (by rfl) (by decide) 7 rfl) (by omega)) (by decide)).mono ?_
      rintro e w9 ⟨⟨M, rfl, hM⟩, hc, hw⟩
      have HM64 := Lib.hid (lit_I64 (l := [0, 5, 25, 1000, 1000000, 1000001, -1]) rfl M hM)
      have hw9 := hw4.trans hw
      clear hc hw hM
      have hv9 : Within w.heap.size (g + 1) w2 w9 := hw9.mono (by omega) (Nat.le_refl _)
      refine hK.out _ _ ⟨hv9, within_at hw9 z0 (.inr (by omega)), within_at hw9 z1 (.inr (by omega)), within_at hw9 z2 (.inr (by omega))⟩ (fun _ => ?_)
      clear hK K
      try simp only [Act.put, List.setIfInBounds_toArray, List.set_cons_zero, List.set_cons_succ]
      have HX9 := Lib.hid (HX.out.kept hw9 (.inl (by omega)))
      have HB9 := Lib.hid ((HW.out.trans hw9).belowOf HBW.out (by omega))
      have hs9 := hw9.size
      clear hw9
      have r0 := HX9.out.cell (i := 0) rfl
      have r1 := HX9.out.cell (i := 1) rfl
      have r2 := HX9.out.cell (i := 2) rfl
      have fr := fun j => HX9.out.frozen j
      refine wpV_do (by kernel_rfl) (fun K hK => ?_)
      go_simp
      have hv4 : Within w.heap.size (g + 1) w2 (((w9.setCell ⟨w.heap.size, 0, none⟩ (.int .i64 P)).setCell ⟨w.heap.size, 1, none⟩ (.int .i64 Q)).setCell ⟨w.heap.size, 2, none⟩ (.int .i64 G)) := ((hv9.setCell (Nat.le_refl _) (by omega) _ _).setCell (Nat.le_refl _) (by omega) _ _).setCell (Nat.le_refl _) (by omega) _ _
      obtain ⟨Y, hY⟩ : ∃ Y, Y = (((w9.setCell ⟨w.heap.size, 0, none⟩ (.int .i64 P)).setCell ⟨w.heap.size, 1, none⟩ (.int .i64 Q)).setCell ⟨w.heap.size, 2, none⟩ (.int .i64 G)) := ⟨_, rfl⟩
      have HXY : Hid (BoxN Y w.heap.size 30 [.int .i64 P, .int .i64 Q, .int .i64 G]) := by unfold Hid; rw [hY]; exact ((HX9.out.set 0 _).set 1 _).set 2 _
      have HBY : Hid (Below w.heap.size w9 Y) := by unfold Hid; rw [hY]; exact (((Below.refl w.heap.size _).setCell (Nat.le_refl _) _).setCell (Nat.le_refl _) _).setCell (Nat.le_refl _) _
      rw [← hY] at hv4 ⊢
      clear hY r0 r1 r2 fr
      refine hK.out _ _ ⟨hv4, within_at hv4 z0 (.inr (by omega)), within_at hv4 z1 (.inr (by omega)), within_at hv4 z2 (.inr (by omega))⟩ (fun _ => ?_)
      clear hK K hv9 hv4 z0 z1 z2
      try simp only [Act.put, List.setIfInBounds_toArray, List.set_cons_zero, List.set_cons_succ]
      repeat (refine' wpV_read _ (by kernel_rfl) (fun w' hS' => ?_) ?_; rotate_left; · ((try dsimp only at hS'); go_simp; (try with_reducible rfl)); (try simp only [Act.put, List.setIfInBounds_toArray, List.set_cons_zero, List.set_cons_succ]))
      refine wpV_done ?_
      go_wp2_with fail
      refine NoPanic.normal ?_
      have r0 := HXY.out.cell (i := 0) rfl
      have r1 := HXY.out.cell (i := 1) rfl
      have r2 := HXY.out.cell (i := 2) rfl
      go_wp2_with fail
      refine bodyPost_ret (v := .tuple #[.agg #[.int .i64 P, .int .i64 Q, .int .i64 G], .int .i64 B, .int .i64 y, .int .i64 M]) (by simp [results, Try.results48, go_sem, r0, r1, r2]) rfl ⟨⟨P, Q, G, B, y, M, rfl, HGR.out, ⟨by omega, by omega⟩, ⟨by omega, by omega⟩, HM64.out⟩, HB9.out.trans HBY.out⟩
    · refine wpV_do (by kernel_rfl) (fun K hK => ?_)
      go_simp
      have hw3 : Within g (g + 1) w2 ((w2.alloc (.cells #[.int .i64 0, .int .i64 5, .int .i64 25, .int .i64 1000, .int .i64 1000000, .int .i64 1000001, .int .i64 (-1)] 3)).drew) := ((Within.refl _ _ _).allocR _).drew
      refine hK.out _ _ ⟨hw3.mono (by omega) (Nat.le_refl _), within_at hw3 z0 (.inr (by omega)), within_at hw3 z1 (.inr (by omega)), within_at hw3 z2 (.inr (by omega))⟩ (fun _ => ?_)
      clear hK K
      try simp only [Act.put, List.setIfInBounds_toArray, List.set_cons_zero, List.set_cons_succ]
      have HOL : Hid (OwnI ((w2.alloc (.cells #[.int .i64 0, .int .i64 5, .int .i64 25, .int .i64 1000, .int .i64 1000000, .int .i64 1000001, .int .i64 (-1)] 3)).drew) w2.heap.size (.slice (some ⟨w2.heap.size, 0, none⟩) 7 7) [0, 5, 25, 1000, 1000000, 1000001, -1]) := (OwnI.lit w2 (Nat.le_refl _) (lit_I64 rfl) (by rfl) (by decide) 7 rfl).below (Below.refl _ _).drew
      have HC3 := Lib.hid (HC.out.keep (((Below.refl w2.heap.size w2).alloc (Nat.le_refl _) (.cells #[.int .i64 0, .int .i64 5, .int .i64 25, .int .i64 1000, .int .i64 1000000, .int .i64 1000001, .int .i64 (-1)] 3)).drew))
      refine wpV_do (by kernel_rfl) (fun K hK => ?_)
      go_simp
      go_at_call 138
      refine (spec_anyElement U g _ P Q G _ HC3.out ((HW.out.trans hw3).belowOf HUC.out (Nat.le_of_eq HUS.out)) (by omega) HGR.out).mono ?_
      rintro e w4 ⟨⟨y, rfl, y0, y1⟩, hc, hw⟩
      have hw4 := hw3.trans hw
      have HC4 := Lib.hid hc
      have hqw4 := hw4.size
      have HOL4 := Lib.hid (HOL.out.within hw (by omega))
      clear hc hw
      refine hK.out _ _ ⟨hw4.mono (by omega) (Nat.le_refl _), within_at hw4 z0 (.inr (by omega)), within_at hw4 z1 (.inr (by omega)), within_at hw4 z2 (.inr (by omega))⟩ (fun _ => ?_)
      clear hK K
      try simp only [Act.put, List.setIfInBounds_toArray, List.set_cons_zero, List.set_cons_succ]
      refine wpV_do (by kernel_rfl) (fun K hK => ?_)
      go_simp
      go_at_call 142
      refine (spec_among U g _ _ [0, 5, 25, 1000, 1000000, 1000001, -1] _ HC4.out ((HW.out.trans hw4).belowOf HUC.out (Nat.le_of_eq HUS.out)) (by omega) (Apart.of_ownI (HOL4.out) (by omega)) (by decide)).mono ?_
      rintro e w9 ⟨⟨M, rfl, hM⟩, hc, hw⟩
      have HM64 := Lib.hid (lit_I64 (l := [0, 5, 25, 1000, 1000000, 1000001, -1]) rfl M hM)
      have hw9 := hw4.trans hw
      clear hc hw hM
      have hv9 : Within w.heap.size (g + 1) w2 w9 := hw9.mono (by omega) (Nat.le_refl _)
      refine hK.out _ _ ⟨hv9, within_at hw9 z0 (.inr (by omega)), within_at hw9 z1 (.inr (by omega)), within_at hw9 z2 (.inr (by omega))⟩ (fun _ => ?_)
      clear hK K
      try simp only [Act.put, List.setIfInBounds_toArray, List.set_cons_zero, List.set_cons_succ]
      have HX9 := Lib.hid (HX.out.kept hw9 (.inl (by omega)))
      have HB9 := Lib.hid ((HW.out.trans hw9).belowOf HBW.out (by omega))
      have hs9 := hw9.size
      clear hw9
      have r0 := HX9.out.cell (i := 0) rfl
      have r1 := HX9.out.cell (i := 1) rfl
      have r2 := HX9.out.cell (i := 2) rfl
      have fr := fun j => HX9.out.frozen j
      refine wpV_do (by kernel_rfl) (fun K hK => ?_)
      go_simp
      have hv4 : Within w.heap.size (g + 1) w2 (((w9.setCell ⟨w.heap.size, 0, none⟩ (.int .i64 P)).setCell ⟨w.heap.size, 1, none⟩ (.int .i64 Q)).setCell ⟨w.heap.size, 2, none⟩ (.int .i64 G)) := ((hv9.setCell (Nat.le_refl _) (by omega) _ _).setCell (Nat.le_refl _) (by omega) _ _).setCell (Nat.le_refl _) (by omega) _ _
      obtain ⟨Y, hY⟩ : ∃ Y, Y = (((w9.setCell ⟨w.heap.size, 0, none⟩ (.int .i64 P)).setCell ⟨w.heap.size, 1, none⟩ (.int .i64 Q)).setCell ⟨w.heap.size, 2, none⟩ (.int .i64 G)) := ⟨_, rfl⟩
      have HXY : Hid (BoxN Y w.heap.size 30 [.int .i64 P, .int .i64 Q, .int .i64 G]) := by unfold Hid; rw [hY]; exact ((HX9.out.set 0 _).set 1 _).set 2 _
      have HBY : Hid (Below w.heap.size w9 Y) := by unfold Hid; rw [hY]; exact (((Below.refl w.heap.size _).setCell (Nat.le_refl _) _).setCell (Nat.le_refl _) _).setCell (Nat.le_refl _) _
      rw [← hY] at hv4 ⊢
      clear hY r0 r1 r2 fr
      refine hK.out _ _ ⟨hv4, within_at hv4 z0 (.inr (by omega)), within_at hv4 z1 (.inr (by omega)), within_at hv4 z2 (.inr (by omega))⟩ (fun _ => ?_)
      clear hK K hv9 hv4 z0 z1 z2
      try simp only [Act.put, List.setIfInBounds_toArray, List.set_cons_zero, List.set_cons_succ]
      repeat (refine' wpV_read _ (by kernel_rfl) (fun w' hS' => ?_) ?_; rotate_left; · ((try dsimp only at hS'); go_simp; (try with_reducible rfl)); (try simp only [Act.put, List.setIfInBounds_toArray, List.set_cons_zero, List.set_cons_succ]))
      refine wpV_done ?_
      go_wp2_with fail
      refine NoPanic.normal ?_
      have r0 := HXY.out.cell (i := 0) rfl
      have r1 := HXY.out.cell (i := 1) rfl
      have r2 := HXY.out.cell (i := 2) rfl
      go_wp2_with fail
      refine bodyPost_ret (v := .tuple #[.agg #[.int .i64 P, .int .i64 Q, .int .i64 G], .int .i64 B, .int .i64 y, .int .i64 M]) (by simp [results, Try.results48, go_sem, r0, r1, r2]) rfl ⟨⟨P, Q, G, B, y, M, rfl, HGR.out, ⟨by omega, by omega⟩, ⟨by omega, by omega⟩, HM64.out⟩, HB9.out.trans HBY.out⟩
  | true =>
    go_wp2_with fail
    refine (spec_l2Good ⟨P, Q, G⟩ _).mono ?_
    rintro e w2c ⟨rfl, hb⟩
    replace HZ := Lib.hid (HZ.out.below hb)
    replace HX := Lib.hid (HX.out.below hb)
    replace HW := Lib.hid (HW.out.trans (Within.of_below hb))
    replace HC := Lib.hid (HC.out.keep hb)
    have hs2c := hb.size
    clear hb z0 z1 z2
    obtain ⟨w2, rfl⟩ : ∃ u, u = w2c := ⟨_, rfl⟩
    have z0 := HZ.out.cell (i := 0) rfl
    have z1 := HZ.out.cell (i := 1) rfl
    have z2 := HZ.out.cell (i := 2) rfl
    cases hgg : goodG ⟨P, Q, G⟩ with
    | false =>
      clear hgg
      go_wp2_with fail
      refine wp_region_noPanic ?_
      refine wp_region_V (fun w' => Within w.heap.size (g + 1) w2 w' ∧ w'.cell? ⟨w1.heap.size, 0, none⟩ = some (.int .i64 P) ∧ w'.cell? ⟨w1.heap.size, 1, none⟩ = some (.int .i64 Q) ∧ w'.cell? ⟨w1.heap.size, 2, none⟩ = some (.int .i64 G)) 20 12 (.rd 0 (.rd 1 (.rd 2 (.rd 3 (.rd 5 (.alt 4 (.alt 6 (.alt 7 (.alt 8 (.rd 9 (.rd 10 (.rd 11 .done))) .nil) .nil) .nil) (.alt 6 (.alt 4 (.alt 7 (.alt 8 (.rd 9 (.rd 10 (.rd 11 .done))) .nil) .nil) .nil) .nil))))))) [] (by kernel_rfl) (by kernel_rfl) rfl (fun _ _ _ _ _ h => h) ⟨(Within.refl _ _ _).drew, z0, z1, z2⟩ ?_
      simp only [pickV, pickN, List.getElem?_cons_zero, List.getElem?_cons_succ]
      have hwz : Within g (g + 1) w2 w2.drew := (Within.refl _ _ _).drew
      repeat (refine' wpV_read _ (by kernel_rfl) (fun w' hS' => ?_) ?_; rotate_left; · ((try dsimp only at hS'); go_simp; (try with_reducible rfl)); (try simp only [Act.put, List.setIfInBounds_toArray, List.set_cons_zero, List.set_cons_succ]))
      refine wpV_or (by kernel_rfl) (fun K hK => ?_) ?_
      · skip
        go_simp
        go_at_call 138
        refine (spec_anyElement U g _ P Q G _ (HC.out.keep (Below.refl _ _).drew) ((HW.out.trans hwz).belowOf HUC.out (Nat.le_of_eq HUS.out)) (by omega) HGR.out).mono ?_
        rintro e w3 ⟨⟨y, rfl, y0, y1⟩, hc, hw⟩
        have hw3 := hwz.trans hw
        have HC3 := Lib.hid hc
        have hqw3 := hw3.size
        clear hc hw
        refine hK.out _ _ ⟨hw3.mono (by omega) (Nat.le_refl _), within_at hw3 z0 (.inr (by omega)), within_at hw3 z1 (.inr (by omega)), within_at hw3 z2 (.inr (by omega))⟩ (fun _ => ?_)
        clear hK K
        try simp only [Act.put, List.setIfInBounds_toArray, List.set_cons_zero, List.set_cons_succ]
        refine wpV_do (by kernel_rfl) (fun K hK => ?_)
        go_simp
        have hw4 : Within g (g + 1) w2 (w3.alloc (.cells #[.int .i64 0, .int .i64 5, .int .i64 25, .int .i64 1000, .int .i64 1000000, .int .i64 1000001, .int .i64 (-1)] 3)) := hw3.allocR _
        refine hK.out _ _ ⟨hw4.mono (by omega) (Nat.le_refl _), within_at hw4 z0 (.inr (by omega)), within_at hw4 z1 (.inr (by omega)), within_at hw4 z2 (.inr (by omega))⟩ (fun _ => ?_)
        clear hK K
        try simp only [Act.put, List.setIfInBounds_toArray, List.set_cons_zero, List.set_cons_succ]
        refine wpV_do (by kernel_rfl) (fun K hK => ?_)
        go_simp
        go_at_call 142
        refine (spec_among U g _ _ [0, 5, 25, 1000, 1000000, 1000001, -1] _ (HC3.out.keep ((Below.refl _ _).alloc (Nat.le_refl _) _)) ((HW.out.trans hw4).belowOf HUC.out (Nat.le_of_eq HUS.out)) (by omega) (Apart.of_ownI (OwnI.lit w3 (Nat.le_refl _) (lit_I64 rfl) (by rfl) (by decide) 7 rfl) (by omega)) (by decide)).mono ?_
        rintro e w9 ⟨⟨M, rfl, hM⟩, hc, hw⟩
        have HM64 := Lib.hid (lit_I64 (l := [0, 5, 25, 1000, 1000000, 1000001, -1]) rfl M hM)
        have hw9 := hw4.trans hw
        clear hc hw hM
        have hv9 : Within w.heap.size (g + 1) w2 w9 := hw9.mono (by omega) (Nat.le_refl _)
        refine hK.out _ _ ⟨hv9, within_at hw9 z0 (.inr (by omega)), within_at hw9 z1 (.inr (by omega)), within_at hw9 z2 (.inr (by omega))⟩ (fun _ => ?_)
        clear hK K
        try simp only [Act.put, List.setIfInBounds_toArray, List.set_cons_zero, List.set_cons_succ]
        have HX9 := Lib.hid (HX.out.kept hw9 (.inl (by omega)))
        have HB9 := Lib.hid ((HW.out.trans hw9).belowOf HBW.out (by omega))
        have hs9 := hw9.size
        clear hw9
        have r0 := HX9.out.cell (i := 0) rfl
        have r1 := HX9.out.cell (i := 1) rfl
        have r2 := HX9.out.cell (i := 2) rfl
        have fr := fun j => HX9.out.frozen j
        refine wpV_do (by kernel_rfl) (fun K hK => ?_)
        go_simp
        have hv4 : Within w.heap.size (g + 1) w2 (((w9.setCell ⟨w.heap.size, 0, none⟩ (.int .i64 P)).setCell ⟨w.heap.size, 1, none⟩ (.int .i64 Q)).setCell ⟨w.heap.size, 2, none⟩ (.int .i64 G)) := ((hv9.setCell (Nat.le_refl _) (by omega) _ _).setCell (Nat.le_refl _) (by omega) _ _).setCell (Nat.le_refl _) (by omega) _ _
        obtain ⟨Y, hY⟩ : ∃ Y, Y = (((w9.setCell ⟨w.heap.size, 0, none⟩ (.int .i64 P)).setCell ⟨w.heap.size, 1, none⟩ (.int .i64 Q)).setCell ⟨w.heap.size, 2, none⟩ (.int .i64 G)) := ⟨_, rfl⟩
        have HXY : Hid (BoxN Y w.heap.size 30 [.int .i64 P, .int .i64 Q, .int .i64 G]) := by unfold Hid; rw [hY]; exact ((HX9.out.set 0 _).set 1 _).set 2 _
        have HBY : Hid (Below w.heap.size w9 Y) := by unfold Hid; rw [hY]; exact (((Below.refl w.heap.size _).setCell (Nat.le_refl _) _).setCell (Nat.le_refl _) _).setCell (Nat.le_refl _) _
        rw [← hY] at hv4 ⊢
        clear hY r0 r1 r2 fr
        refine hK.out _ _ ⟨hv4, within_at hv4 z0 (.inr (by omega)), within_at hv4 z1 (.inr (by omega)), within_at hv4 z2 (.inr (by omega))⟩ (fun _ => ?_)
        clear hK K hv9 hv4 z0 z1 z2
        try simp only [Act.put, List.setIfInBounds_toArray, List.set_cons_zero, List.set_cons_succ]
        repeat (refine' wpV_read _ (by kernel_rfl) (fun w' hS' => ?_) ?_; rotate_left; · ((try dsimp only at hS'); go_simp; (try with_reducible rfl)); (try simp only [Act.put, List.setIfInBounds_toArray, List.set_cons_zero, List.set_cons_succ]))
        refine wpV_done ?_
        go_wp2_with fail
        refine NoPanic.normal ?_
        have r0 := HXY.out.cell (i := 0) rfl
        have r1 := HXY.out.cell (i := 1) rfl
        have r2 := HXY.out.cell (i := 2) rfl
        go_wp2_with fail
        refine bodyPost_ret (v := .tuple #[.agg #[.int .i64 P, .int .i64 Q, .int .i64 G], .int .i64 B, .int .i64 y, .int .i64 M]) (by simp [results, Try.results48, go_sem, r0, r1, r2]) rfl ⟨⟨P, Q, G, B, y, M, rfl, HGR.out, ⟨by omega, by omega⟩, ⟨by omega, by omega⟩, HM64.out⟩, HB9.out.trans HBY.out⟩
      · refine wpV_do (by kernel_rfl) (fun K hK => ?_)
        go_simp
        have hw3 : Within g (g + 1) w2 ((w2.alloc (.cells #[.int .i64 0, .int .i64 5, .int .i64 25, .int .i64 1000, .int .i64 1000000, .int .i64 1000001, .int .i64 (-1)] 3)).drew) := ((Within.refl _ _ _).allocR _).drew
        refine hK.out _ _ ⟨hw3.mono (by omega) (Nat.le_refl _), within_at hw3 z0 (.inr (by omega)), within_at hw3 z1 (.inr (by omega)), within_at hw3 z2 (.inr (by omega))⟩ (fun _ => ?_)
        clear hK K
        try simp only [Act.put, List.setIfInBounds_toArray, List.set_cons_zero, List.set_cons_succ]
        have HOL : Hid (OwnI ((w2.alloc (.cells #[.int .i64 0, .int .i64 5, .int .i64 25, .int .i64 1000, .int .i64 1000000, .int .i64 1000001, .int .i64 (-1)] 3)).drew) w2.heap.size (.slice (some ⟨w2.heap.size, 0, none⟩) 7 7) [0, 5, 25, 1000, 1000000, 1000001, -1]) := (OwnI.lit w2 (Nat.le_refl _) (lit_I64 rfl) (by rfl) (by decide) 7 rfl).below (Below.refl _ _).drew
        have HC3 := Lib.hid (HC.out.keep (((Below.refl w2.heap.size w2).alloc (Nat.le_refl _) (.cells #[.int .i64 0, .int .i64 5, .int .i64 25, .int .i64 1000, .int .i64 1000000, .int .i64 1000001, .int .i64 (-1)] 3)).drew))
        refine wpV_do (by kernel_rfl) (fun K hK => ?_)
        go_simp
        go_at_call 138
        refine (spec_anyElement U g _ P Q G _ HC3.out ((HW.out.trans hw3).belowOf HUC.out (Nat.le_of_eq HUS.out)) (by omega) HGR.out).mono ?_
        rintro e w4 ⟨⟨y, rfl, y0, y1⟩, hc, hw⟩
        have hw4 := hw3.trans hw
        have HC4 := Lib.hid hc
        have hqw4 := hw4.size
        have HOL4 := Lib.hid (HOL.out.within hw (by omega))
        clear hc hw
        refine hK.out _ _ ⟨hw4.mono (by omega) (Nat.le_refl _), within_at hw4 z0 (.inr (by omega)), within_at hw4 z1 (.inr (by omega)), within_at hw4 z2 (.inr (by omega))⟩ (fun _ => ?_)
        clear hK K
        try simp only [Act.put, List.setIfInBounds_toArray, List.set_cons_zero, List.set_cons_succ]
        refine wpV_do (by kernel_rfl) (fun K hK => ?_)
        go_simp
        go_at_call 142
        refine (spec_among U g _ _ [0, 5, 25, 1000, 1000000, 1000001, -1] _ HC4.out ((HW.out.trans hw4).belowOf HUC.out (Nat.le_of_eq HUS.out)) (by omega) (Apart.of_ownI (HOL4.out) (by omega)) (by decide)).mono ?_
        rintro e w9 ⟨⟨M, rfl, hM⟩, hc, hw⟩
        have HM64 := Lib.hid (lit_I64 (l := [0, 5, 25, 1000, 1000000, 1000001, -1]) rfl M hM)
        have hw9 := hw4.trans hw
        clear hc hw hM
        have hv9 : Within w.heap.size (g + 1) w2 w9 := hw9.mono (by omega) (Nat.le_refl _)
        refine hK.out _ _ ⟨hv9, within_at hw9 z0 (.inr (by omega)), within_at hw9 z1 (.inr (by omega)), within_at hw9 z2 (.inr (by omega))⟩ (fun _ => ?_)
        clear hK K
        try simp only [Act.put, List.setIfInBounds_toArray, List.set_cons_zero, List.set_cons_succ]
        have HX9 := Lib.hid (HX.out.kept hw9 (.inl (by omega)))
        have HB9 := Lib.hid ((HW.out.trans hw9).belowOf HBW.out (by omega))
        have hs9 := hw9.size
        clear hw9
        have r0 := HX9.out.cell (i := 0) rfl
        have r1 := HX9.out.cell (i := 1) rfl
        have r2 := HX9.out.cell (i := 2) rfl
        have fr := fun j => HX9.out.frozen j
        refine wpV_do (by kernel_rfl) (fun K hK => ?_)
        go_simp
        have hv4 : Within w.heap.size (g + 1) w2 (((w9.setCell ⟨w.heap.size, 0, none⟩ (.int .i64 P)).setCell ⟨w.heap.size, 1, none⟩ (.int .i64 Q)).setCell ⟨w.heap.size, 2, none⟩ (.int .i64 G)) := ((hv9.setCell (Nat.le_refl _) (by omega) _ _).setCell (Nat.le_refl _) (by omega) _ _).setCell (Nat.le_refl _) (by omega) _ _
        obtain ⟨Y, hY⟩ : ∃ Y, Y = (((w9.setCell ⟨w.heap.size, 0, none⟩ (.int .i64 P)).setCell ⟨w.heap.size, 1, none⟩ (.int .i64 Q)).setCell ⟨w.heap.size, 2, none⟩ (.int .i64 G)) := ⟨_, rfl⟩
        have HXY : Hid (BoxN Y w.heap.size 30 [.int .i64 P, .int .i64 Q, .int .i64 G]) := by unfold Hid; rw [hY]; exact ((HX9.out.set 0 _).set 1 _).set 2 _
        have HBY : Hid (Below w.heap.size w9 Y) := by unfold Hid; rw [hY]; exact (((Below.refl w.heap.size _).setCell (Nat.le_refl _) _).setCell (Nat.le_refl _) _).setCell (Nat.le_refl _) _
        rw [← hY] at hv4 ⊢
        clear hY r0 r1 r2 fr
        refine hK.out _ _ ⟨hv4, within_at hv4 z0 (.inr (by omega)), within_at hv4 z1 (.inr (by omega)), within_at hv4 z2 (.inr (by omega))⟩ (fun _ => ?_)
        clear hK K hv9 hv4 z0 z1 z2
        try simp only [Act.put, List.setIfInBounds_toArray, List.set_cons_zero, List.set_cons_succ]
        repeat (refine' wpV_read _ (by kernel_rfl) (fun w' hS' => ?_) ?_; rotate_left; · ((try dsimp only at hS'); go_simp; (try with_reducible rfl)); (try simp only [Act.put, List.setIfInBounds_toArray, List.set_cons_zero, List.set_cons_succ]))
        refine wpV_done ?_
        go_wp2_with fail
        refine NoPanic.normal ?_
        have r0 := HXY.out.cell (i := 0) rfl
        have r1 := HXY.out.cell (i := 1) rfl
        have r2 := HXY.out.cell (i := 2) rfl
        go_wp2_with fail
        refine bodyPost_ret (v := .tuple #[.agg #[.int .i64 P, .int .i64 Q, .int .i64 G], .int .i64 B, .int .i64 y, .int .i64 M]) (by simp [results, Try.results48, go_sem, r0, r1, r2]) rfl ⟨⟨P, Q, G, B, y, M, rfl, HGR.out, ⟨by omega, by omega⟩, ⟨by omega, by omega⟩, HM64.out⟩, HB9.out.trans HBY.out⟩
    | true =>
      have HG := Lib.hid (goodG_ok hgg)
      clear hgg
      go_wp2_with fail
      refine (spec_gIs ⟨P, Q, G⟩ _ [B] _ HG.out (Ints.lit1 _ ⟨by omega, by omega⟩)).mono ?_
      rintro e w2d ⟨rfl, hb⟩
      replace hb := Below.next ((Below.refl w2.heap.size w2).alloc (Nat.le_refl _) _) hb
      replace HZ := Lib.hid (HZ.out.below hb)
      replace HX := Lib.hid (HX.out.below hb)
      replace HW := Lib.hid (HW.out.trans (Within.of_below hb))
      replace HC := Lib.hid (HC.out.keep hb)
      have hs2d := hb.size
      clear hb z0 z1 z2
      obtain ⟨w2, rfl⟩ : ∃ u, u = w2d := ⟨_, rfl⟩
      have z0 := HZ.out.cell (i := 0) rfl
      have z1 := HZ.out.cell (i := 1) rfl
      have z2 := HZ.out.cell (i := 2) rfl
      have HEL : Hid (([B].all (elB ⟨P, Q, G⟩)) = elB ⟨P, Q, G⟩ B) := by simp [Hid]
      rw [HEL.out]
      cases hel : elB ⟨P, Q, G⟩ B with
      | false =>
        clear hel
        go_wp2_with fail
        refine wp_region_noPanic ?_
        refine wp_region_V (fun w' => Within w.heap.size (g + 1) w2 w' ∧ w'.cell? ⟨w1.heap.size, 0, none⟩ = some (.int .i64 P) ∧ w'.cell? ⟨w1.heap.size, 1, none⟩ = some (.int .i64 Q) ∧ w'.cell? ⟨w1.heap.size, 2, none⟩ = some (.int .i64 G)) 20 12 (.rd 0 (.rd 1 (.rd 2 (.rd 3 (.rd 5 (.alt 4 (.alt 6 (.alt 7 (.alt 8 (.rd 9 (.rd 10 (.rd 11 .done))) .nil) .nil) .nil) (.alt 6 (.alt 4 (.alt 7 (.alt 8 (.rd 9 (.rd 10 (.rd 11 .done))) .nil) .nil) .nil) .nil))))))) [] (by kernel_rfl) (by kernel_rfl) rfl (fun _ _ _ _ _ h => h) ⟨(Within.refl _ _ _).drew, z0, z1, z2⟩ ?_
        simp only [pickV, pickN, List.getElem?_cons_zero, List.getElem?_cons_succ]
        have hwz : Within g (g + 1) w2 w2.drew := (Within.refl _ _ _).drew
        repeat (refine' wpV_read _ (by kernel_rfl) (fun w' hS' => ?_) ?_; rotate_left; · ((try dsimp only at hS'); go_simp; (try with_reducible rfl)); (try simp only [Act.put, List.setIfInBounds_toArray, List.set_cons_zero, List.set_cons_succ]))
        refine wpV_or (by kernel_rfl) (fun K hK => ?_) ?_
        · skip
          go_simp
          go_at_call 138
          refine (spec_anyElement U g _ P Q G _ (HC.out.keep (Below.refl _ _).drew) ((HW.out.trans hwz).belowOf HUC.out (Nat.le_of_eq HUS.out)) (by omega) HGR.out).mono ?_
          rintro e w3 ⟨⟨y, rfl, y0, y1⟩, hc, hw⟩
          have hw3 := hwz.trans hw
          have HC3 := Lib.hid hc
          have hqw3 := hw3.size
          clear hc hw
          refine hK.out _ _ ⟨hw3.mono (by omega) (Nat.le_refl _), within_at hw3 z0 (.inr (by omega)), within_at hw3 z1 (.inr (by omega)), within_at hw3 z2 (.inr (by omega))⟩ (fun _ => ?_)
          clear hK K
          try simp only [Act.put, List.setIfInBounds_toArray, List.set_cons_zero, List.set_cons_succ]
          refine wpV_do (by kernel_rfl) (fun K hK => ?_)
          go_simp
          have hw4 : Within g (g + 1) w2 (w3.alloc (.cells #[.int .i64 0, .int .i64 5, .int .i64 25, .int .i64 1000, .int .i64 1000000, .int .i64 1000001, .int .i64 (-1)] 3)) := hw3.allocR _
          refine hK.out _ _ ⟨hw4.mono (by omega) (Nat.le_refl _), within_at hw4 z0 (.inr (by omega)), within_at hw4 z1 (.inr (by omega)), within_at hw4 z2 (.inr (by omega))⟩ (fun _ => ?_)
          clear hK K
          try simp only [Act.put, List.setIfInBounds_toArray, List.set_cons_zero, List.set_cons_succ]
          refine wpV_do (by kernel_rfl) (fun K hK => ?_)
          go_simp
          go_at_call 142
          refine (spec_among U g _ _ [0, 5, 25, 1000, 1000000, 1000001, -1] _ (HC3.out.keep ((Below.refl _ _).alloc (Nat.le_refl _) _)) ((HW.out.trans hw4).belowOf HUC.out (Nat.le_of_eq HUS.out)) (by omega) (Apart.of_ownI (OwnI.lit w3 (Nat.le_refl _) (lit_I64 rfl) (by rfl) (by decide) 7 rfl) (by omega)) (by decide)).mono ?_
          rintro e w9 ⟨⟨M, rfl, hM⟩, hc, hw⟩
          have HM64 := Lib.hid (lit_I64 (l := [0, 5, 25, 1000, 1000000, 1000001, -1]) rfl M hM)
          have hw9 := hw4.trans hw
          clear hc hw hM
          have hv9 : Within w.heap.size (g + 1) w2 w9 := hw9.mono (by omega) (Nat.le_refl _)
          refine hK.out _ _ ⟨hv9, within_at hw9 z0 (.inr (by omega)), within_at hw9 z1 (.inr (by omega)), within_at hw9 z2 (.inr (by omega))⟩ (fun _ => ?_)
          clear hK K
          try simp only [Act.put, List.setIfInBounds_toArray, List.set_cons_zero, List.set_cons_succ]
          have HX9 := Lib.hid (HX.out.kept hw9 (.inl (by omega)))
          have HB9 := Lib.hid ((HW.out.trans hw9).belowOf HBW.out (by omega))
          have hs9 := hw9.size
          clear hw9
          have r0 := HX9.out.cell (i := 0) rfl
          have r1 := HX9.out.cell (i := 1) rfl
          have r2 := HX9.out.cell (i := 2) rfl
          have fr := fun j => HX9.out.frozen j
          refine wpV_do (by kernel_rfl) (fun K hK => ?_)
          go_simp
          have hv4 : Within w.heap.size (g + 1) w2 (((w9.setCell ⟨w.heap.size, 0, none⟩ (.int .i64 P)).setCell ⟨w.heap.size, 1, none⟩ (.int .i64 Q)).setCell ⟨w.heap.size, 2, none⟩ (.int .i64 G)) := ((hv9.setCell (Nat.le_refl _) (by omega) _ _).setCell (Nat.le_refl _) (by omega) _ _).setCell (Nat.le_refl _) (by omega) _ _
          obtain ⟨Y, hY⟩ : ∃ Y, Y = (((w9.setCell ⟨w.heap.size, 0, none⟩ (.int .i64 P)).setCell ⟨w.heap.size, 1, none⟩ (.int .i64 Q)).setCell ⟨w.heap.size, 2, none⟩ (.int .i64 G)) := ⟨_, rfl⟩
          have HXY : Hid (BoxN Y w.heap.size 30 [.int .i64 P, .int .i64 Q, .int .i64 G]) := by unfold Hid; rw [hY]; exact ((HX9.out.set 0 _).set 1 _).set 2 _
          have HBY : Hid (Below w.heap.size w9 Y) := by unfold Hid; rw [hY]; exact (((Below.refl w.heap.size _).setCell (Nat.le_refl _) _).setCell (Nat.le_refl _) _).setCell (Nat.le_refl _) _
          rw [← hY] at hv4 ⊢
          clear hY r0 r1 r2 fr
          refine hK.out _ _ ⟨hv4, within_at hv4 z0 (.inr (by omega)), within_at hv4 z1 (.inr (by omega)), within_at hv4 z2 (.inr (by omega))⟩ (fun _ => ?_)
          clear hK K hv9 hv4 z0 z1 z2
          try simp only [Act.put, List.setIfInBounds_toArray, List.set_cons_zero, List.set_cons_succ]
          repeat (refine' wpV_read _ (by kernel_rfl) (fun w' hS' => ?_) ?_; rotate_left; · ((try dsimp only at hS'); go_simp; (try with_reducible rfl)); (try simp only [Act.put, List.setIfInBounds_toArray, List.set_cons_zero, List.set_cons_succ]))
          refine wpV_done ?_
          go_wp2_with fail
          refine NoPanic.normal ?_
          have r0 := HXY.out.cell (i := 0) rfl
          have r1 := HXY.out.cell (i := 1) rfl
          have r2 := HXY.out.cell (i := 2) rfl
          go_wp2_with fail
          refine bodyPost_ret (v := .tuple #[.agg #[.int .i64 P, .int .i64 Q, .int .i64 G], .int .i64 B, .int .i64 y, .int .i64 M]) (by simp [results, Try.results48, go_sem, r0, r1, r2]) rfl ⟨⟨P, Q, G, B, y, M, rfl, HGR.out, ⟨by omega, by omega⟩, ⟨by omega, by omega⟩, HM64.out⟩, HB9.out.trans HBY.out⟩
        · refine wpV_do (by kernel_rfl) (fun K hK => ?_)
          go_simp
          have hw3 : Within g (g + 1) w2 ((w2.alloc (.cells #[.int .i64 0, .int .i64 5, .int .i64 25, .int .i64 1000, .int .i64 1000000, .int .i64 1000001, .int .i64 (-1)] 3)).drew) := ((Within.refl _ _ _).allocR _).drew
          refine hK.out _ _ ⟨hw3.mono (by omega) (Nat.le_refl _), within_at hw3 z0 (.inr (by omega)), within_at hw3 z1 (.inr (by omega)), within_at hw3 z2 (.inr (by omega))⟩ (fun _ => ?_)
          clear hK K
          try simp only [Act.put, List.setIfInBounds_toArray, List.set_cons_zero, List.set_cons_succ]
          have HOL : Hid (OwnI ((w2.alloc (.cells #[.int .i64 0, .int .i64 5, .int .i64 25, .int .i64 1000, .int .i64 1000000, .int .i64 1000001, .int .i64 (-1)] 3)).drew) w2.heap.size (.slice (some ⟨w2.heap.size, 0, none⟩) 7 7) [0, 5, 25, 1000, 1000000, 1000001, -1]) := (OwnI.lit w2 (Nat.le_refl _) (lit_I64 rfl) (by rfl) (by decide) 7 rfl).below (Below.refl _ _).drew
          have HC3 := Lib.hid (HC.out.keep (((Below.refl w2.heap.size w2).alloc (Nat.le_refl _) (.cells #[.int .i64 0, .int .i64 5, .int .i64 25, .int .i64 1000, .int .i64 1000000, .int .i64 1000001, .int .i64 (-1)] 3)).drew))
          refine wpV_do (by kernel_rfl) (fun K hK => ?_)
          go_simp
          go_at_call 138
          refine (spec_anyElement U g _ P Q G _ HC3.out ((HW.out.trans hw3).belowOf HUC.out (Nat.le_of_eq HUS.out)) (by omega) HGR.out).mono ?_
          rintro e w4 ⟨⟨y, rfl, y0, y1⟩, hc, hw⟩
          have hw4 := hw3.trans hw
          have HC4 := Lib.hid hc
          have hqw4 := hw4.size
          have HOL4 := Lib.hid (HOL.out.within hw (by omega))
          clear hc hw
          refine hK.out _ _ ⟨hw4.mono (by omega) (Nat.le_refl _), within_at hw4 z0 (.inr (by omega)), within_at hw4 z1 (.inr (by omega)), within_at hw4 z2 (.inr (by omega))⟩ (fun _ => ?_)
          clear hK K
          try simp only [Act.put, List.setIfInBounds_toArray, List.set_cons_zero, List.set_cons_succ]
          refine wpV_do (by kernel_rfl) (fun K hK => ?_)
          go_simp
          go_at_call 142
          refine (spec_among U g _ _ [0, 5, 25, 1000, 1000000, 1000001, -1] _ HC4.out ((HW.out.trans hw4).belowOf HUC.out (Nat.le_of_eq HUS.out)) (by omega) (Apart.of_ownI (HOL4.out) (by omega)) (by decide)).mono ?_
          rintro e w9 ⟨⟨M, rfl, hM⟩, hc, hw⟩
          have HM64 := Lib.hid (lit_I64 (l := [0, 5, 25, 1000, 1000000, 1000001, -1]) rfl M hM)
          have hw9 := hw4.trans hw
          clear hc hw hM
          have hv9 : Within w.heap.size (g + 1) w2 w9 := hw9.mono (by omega) (Nat.le_refl _)
          refine hK.out _ _ ⟨hv9, within_at hw9 z0 (.inr (by omega)), within_at hw9 z1 (.inr (by omega)), within_at hw9 z2 (.inr (by omega))⟩ (fun _ => ?_)
          clear hK K
          try simp only [Act.put, List.setIfInBounds_toArray, List.set_cons_zero, List.set_cons_succ]
          have HX9 := Lib.hid (HX.out.kept hw9 (.inl (by omega)))
          have HB9 := Lib.hid ((HW.out.trans hw9).belowOf HBW.out (by omega))
          have hs9 := hw9.size
          clear hw9
          have r0 := HX9.out.cell (i := 0) rfl
          have r1 := HX9.out.cell (i := 1) rfl
          have r2 := HX9.out.cell (i := 2) rfl
          have fr := fun j => HX9.out.frozen j
          refine wpV_do (by kernel_rfl) (fun K hK => ?_)
          go_simp
          have hv4 : Within w.heap.size (g + 1) w2 (((w9.setCell ⟨w.heap.size, 0, none⟩ (.int .i64 P)).setCell ⟨w.heap.size, 1, none⟩ (.int .i64 Q)).setCell ⟨w.heap.size, 2, none⟩ (.int .i64 G)) := ((hv9.setCell (Nat.le_refl _) (by omega) _ _).setCell (Nat.le_refl _) (by omega) _ _).setCell (Nat.le_refl _) (by omega) _ _
          obtain ⟨Y, hY⟩ : ∃ Y, Y = (((w9.setCell ⟨w.heap.size, 0, none⟩ (.int .i64 P)).setCell ⟨w.heap.size, 1, none⟩ (.int .i64 Q)).setCell ⟨w.heap.size, 2, none⟩ (.int .i64 G)) := ⟨_, rfl⟩
          have HXY : Hid (BoxN Y w.heap.size 30 [.int .i64 P, .int .i64 Q, .int .i64 G]) := by unfold Hid; rw [hY]; exact ((HX9.out.set 0 _).set 1 _).set 2 _
          have HBY : Hid (Below w.heap.size w9 Y) := by unfold Hid; rw [hY]; exact (((Below.refl w.heap.size _).setCell (Nat.le_refl _) _).setCell (Nat.le_refl _) _).setCell (Nat.le_refl _) _
          rw [← hY] at hv4 ⊢
          clear hY r0 r1 r2 fr
          refine hK.out _ _ ⟨hv4, within_at hv4 z0 (.inr (by omega)), within_at hv4 z1 (.inr (by omega)), within_at hv4 z2 (.inr (by omega))⟩ (fun _ => ?_)
          clear hK K hv9 hv4 z0 z1 z2
          try simp only [Act.put, List.setIfInBounds_toArray, List.set_cons_zero, List.set_cons_succ]
          repeat (refine' wpV_read _ (by kernel_rfl) (fun w' hS' => ?_) ?_; rotate_left; · ((try dsimp only at hS'); go_simp; (try with_reducible rfl)); (try simp only [Act.put, List.setIfInBounds_toArray, List.set_cons_zero, List.set_cons_succ]))
          refine wpV_done ?_
          go_wp2_with fail
          refine NoPanic.normal ?_
          have r0 := HXY.out.cell (i := 0) rfl
          have r1 := HXY.out.cell (i := 1) rfl
          have r2 := HXY.out.cell (i := 2) rfl
          go_wp2_with fail
          refine bodyPost_ret (v := .tuple #[.agg #[.int .i64 P, .int .i64 Q, .int .i64 G], .int .i64 B, .int .i64 y, .int .i64 M]) (by simp [results, Try.results48, go_sem, r0, r1, r2]) rfl ⟨⟨P, Q, G, B, y, M, rfl, HGR.out, ⟨by omega, by omega⟩, ⟨by omega, by omega⟩, HM64.out⟩, HB9.out.trans HBY.out⟩
      | true =>
        obtain ⟨b0, b1⟩ := elB_bd hel
        replace b1 : B ≤ P - 1 := b1
        have hp2 : P ≤ 2000000000 := HG.out.p2
        have HYB : Hid (∀ x, 0 ≤ powE ⟨P, Q, G⟩ B x ∧ powE ⟨P, Q, G⟩ B x < P) := fun x => powE_bd HG.out B x
        clear hel
        go_wp2_with fail
        refine wp_region_noPanic ?_
        refine wp_region_V (fun w' => Within w.heap.size (g + 1) w2 w' ∧ w'.cell? ⟨w1.heap.size, 0, none⟩ = some (.int .i64 P) ∧ w'.cell? ⟨w1.heap.size, 1, none⟩ = some (.int .i64 Q) ∧ w'.cell? ⟨w1.heap.size, 2, none⟩ = some (.int .i64 G)) 20 14 (.rd 0 (.rd 1 (.rd 2 (.rd 3 (.rd 4 (.rd 7 (.alt 5 (.alt 6 (.alt 8 (.alt 9 (.alt 10 (.rd 11 (.rd 12 (.rd 13 .done))) .nil) .nil) .nil) (.alt 8 (.alt 6 (.alt 9 (.alt 10 (.rd 11 (.rd 12 (.rd 13 .done))) .nil) .nil) .nil) .nil)) (.alt 8 (.alt 5 (.alt 6 (.alt 9 (.alt 10 (.rd 11 (.rd 12 (.rd 13 .done))) .nil) .nil) .nil) .nil) .nil)))))))) [] (by kernel_rfl) (by kernel_rfl) rfl (fun _ _ _ _ _ h => h) ⟨(Within.refl _ _ _).drew, z0, z1, z2⟩ ?_
        simp only [pickV, pickN, List.getElem?_cons_zero, List.getElem?_cons_succ]
        have hwz : Within g (g + 1) w2 w2.drew := (Within.refl _ _ _).drew
        repeat (refine' wpV_read _ (by kernel_rfl) (fun w' hS' => ?_) ?_; rotate_left; · ((try dsimp only at hS'); go_simp; (try with_reducible rfl)); (try simp only [Act.put, List.setIfInBounds_toArray, List.set_cons_zero, List.set_cons_succ]))
        refine wpV_or (by kernel_rfl) (fun K hK => ?_) ?_
        · skip
          go_simp
          go_at_call 141
          refine (spec_pick U g _ 40 _ (HC.out.keep (Below.refl _ _).drew) ((HW.out.trans hwz).belowOf HUC.out (Nat.le_of_eq HUS.out)) (by omega)).mono ?_
          rintro e w3 ⟨⟨x, rfl, hx0, hx1, _, _⟩, hc, hw⟩
          have hw3 := hwz.trans hw
          have HC3 := Lib.hid hc
          have hqw3 := hw3.size
          clear hc hw
          refine hK.out _ _ ⟨hw3.mono (by omega) (Nat.le_refl _), within_at hw3 z0 (.inr (by omega)), within_at hw3 z1 (.inr (by omega)), within_at hw3 z2 (.inr (by omega))⟩ (fun _ => ?_)
          clear hK K
          try simp only [Act.put, List.setIfInBounds_toArray, List.set_cons_zero, List.set_cons_succ]
          refine wpV_or (by kernel_rfl) (fun K hK => ?_) ?_
          · skip
            go_simp
            go_at_call 140
            refine (spec_gExp ⟨P, Q, G⟩ B x _ HG.out ⟨by omega, by omega⟩ ⟨by omega, by omega⟩).mono ?_
            rintro e w4 ⟨rfl, hb⟩
            obtain ⟨y0, y1⟩ := HYB.out x
            generalize powE ⟨P, Q, G⟩ B x = y at y0 y1 ⊢
            have hw4 := hw3.trans (Within.of_below hb)
            have HC4 := Lib.hid (HC3.out.keep hb)
            have hqw4 := hw4.size
            clear hb
            refine hK.out _ _ ⟨hw4.mono (by omega) (Nat.le_refl _), within_at hw4 z0 (.inr (by omega)), within_at hw4 z1 (.inr (by omega)), within_at hw4 z2 (.inr (by omega))⟩ (fun _ => ?_)
            clear hK K
            try simp only [Act.put, List.setIfInBounds_toArray, List.set_cons_zero, List.set_cons_succ]
            refine wpV_do (by kernel_rfl) (fun K hK => ?_)
            go_simp
            have hw5 : Within g (g + 1) w2 (w4.alloc (.cells #[.int .i64 0, .int .i64 10, .int .i64 40, .int .i64 1000] 3)) := hw4.allocR _
            refine hK.out _ _ ⟨hw5.mono (by omega) (Nat.le_refl _), within_at hw5 z0 (.inr (by omega)), within_at hw5 z1 (.inr (by omega)), within_at hw5 z2 (.inr (by omega))⟩ (fun _ => ?_)
            clear hK K
            try simp only [Act.put, List.setIfInBounds_toArray, List.set_cons_zero, List.set_cons_succ]
            refine wpV_do (by kernel_rfl) (fun K hK => ?_)
            go_simp
            go_at_call 142
            refine (spec_among U g _ _ [0, 10, 40, 1000] _ (HC4.out.keep ((Below.refl _ _).alloc (Nat.le_refl _) _)) ((HW.out.trans hw5).belowOf HUC.out (Nat.le_of_eq HUS.out)) (by omega) (Apart.of_ownI (OwnI.lit w4 (Nat.le_refl _) (lit_I64 rfl) (by rfl) (by decide) 4 rfl) (by omega)) (by decide)).mono ?_
            rintro e w9 ⟨⟨M, rfl, hM⟩, hc, hw⟩
            have HM64 := Lib.hid (lit_I64 (l := [0, 10, 40, 1000]) rfl M hM)
            have hw9 := hw5.trans hw
            clear hc hw hM
            have hv9 : Within w.heap.size (g + 1) w2 w9 := hw9.mono (by omega) (Nat.le_refl _)
            refine hK.out _ _ ⟨hv9, within_at hw9 z0 (.inr (by omega)), within_at hw9 z1 (.inr (by omega)), within_at hw9 z2 (.inr (by omega))⟩ (fun _ => ?_)
            clear hK K
            try simp only [Act.put, List.setIfInBounds_toArray, List.set_cons_zero, List.set_cons_succ]
            have HX9 := Lib.hid (HX.out.kept hw9 (.inl (by omega)))
            have HB9 := Lib.hid ((HW.out.trans hw9).belowOf HBW.out (by omega))
            have hs9 := hw9.size
            clear hw9
            have r0 := HX9.out.cell (i := 0) rfl
            have r1 := HX9.out.cell (i := 1) rfl
            have r2 := HX9.out.cell (i := 2) rfl
            have fr := fun j => HX9.out.frozen j
            refine wpV_do (by kernel_rfl) (fun K hK => ?_)
            go_simp
            have hv4 : Within w.heap.size (g + 1) w2 (((w9.setCell ⟨w.heap.size, 0, none⟩ (.int .i64 P)).setCell ⟨w.heap.size, 1, none⟩ (.int .i64 Q)).setCell ⟨w.heap.size, 2, none⟩ (.int .i64 G)) := ((hv9.setCell (Nat.le_refl _) (by omega) _ _).setCell (Nat.le_refl _) (by omega) _ _).setCell (Nat.le_refl _) (by omega) _ _
            obtain ⟨Y, hY⟩ : ∃ Y, Y = (((w9.setCell ⟨w.heap.size, 0, none⟩ (.int .i64 P)).setCell ⟨w.heap.size, 1, none⟩ (.int .i64 Q)).setCell ⟨w.heap.size, 2, none⟩ (.int .i64 G)) := ⟨_, rfl⟩
            have HXY : Hid (BoxN Y w.heap.size 30 [.int .i64 P, .int .i64 Q, .int .i64 G]) := by unfold Hid; rw [hY]; exact ((HX9.out.set 0 _).set 1 _).set 2 _
            have HBY : Hid (Below w.heap.size w9 Y) := by unfold Hid; rw [hY]; exact (((Below.refl w.heap.size _).setCell (Nat.le_refl _) _).setCell (Nat.le_refl _) _).setCell (Nat.le_refl _) _
            rw [← hY] at hv4 ⊢
            clear hY r0 r1 r2 fr
            refine hK.out _ _ ⟨hv4, within_at hv4 z0 (.inr (by omega)), within_at hv4 z1 (.inr (by omega)), within_at hv4 z2 (.inr (by omega))⟩ (fun _ => ?_)
            clear hK K hv9 hv4 z0 z1 z2
            try simp only [Act.put, List.setIfInBounds_toArray, List.set_cons_zero, List.set_cons_succ]
            repeat (refine' wpV_read _ (by kernel_rfl) (fun w' hS' => ?_) ?_; rotate_left; · ((try dsimp only at hS'); go_simp; (try with_reducible rfl)); (try simp only [Act.put, List.setIfInBounds_toArray, List.set_cons_zero, List.set_cons_succ]))
            refine wpV_done ?_
            go_wp2_with fail
            refine NoPanic.normal ?_
            have r0 := HXY.out.cell (i := 0) rfl
            have r1 := HXY.out.cell (i := 1) rfl
            have r2 := HXY.out.cell (i := 2) rfl
            go_wp2_with fail
            refine bodyPost_ret (v := .tuple #[.agg #[.int .i64 P, .int .i64 Q, .int .i64 G], .int .i64 B, .int .i64 y, .int .i64 M]) (by simp [results, Try.results48, go_sem, r0, r1, r2]) rfl ⟨⟨P, Q, G, B, y, M, rfl, HGR.out, ⟨by omega, by omega⟩, ⟨by omega, by omega⟩, HM64.out⟩, HB9.out.trans HBY.out⟩
          · refine wpV_do (by kernel_rfl) (fun K hK => ?_)
            go_simp
            have hw4 : Within g (g + 1) w2 (w3.alloc (.cells #[.int .i64 0, .int .i64 10, .int .i64 40, .int .i64 1000] 3)) := hw3.allocR _
            refine hK.out _ _ ⟨hw4.mono (by omega) (Nat.le_refl _), within_at hw4 z0 (.inr (by omega)), within_at hw4 z1 (.inr (by omega)), within_at hw4 z2 (.inr (by omega))⟩ (fun _ => ?_)
            clear hK K
            try simp only [Act.put, List.setIfInBounds_toArray, List.set_cons_zero, List.set_cons_succ]
            refine wpV_do (by kernel_rfl) (fun K hK => ?_)
            have HOL : Hid (OwnI (w3.alloc (.cells #[.int .i64 0, .int .i64 10, .int .i64 40, .int .i64 1000] 3)) w3.heap.size (.slice (some ⟨w3.heap.size, 0, none⟩) 4 4) [0, 10, 40, 1000]) := OwnI.lit w3 (Nat.le_refl _) (lit_I64 rfl) (by rfl) (by decide) 4 rfl
            have HC4 := Lib.hid (HC3.out.keep ((Below.refl _ _).alloc (Nat.le_refl _) (.cells #[.int .i64 0, .int .i64 10, .int .i64 40, .int .i64 1000] 3)))
            go_simp
            go_at_call 140
            refine (spec_gExp ⟨P, Q, G⟩ B x _ HG.out ⟨by omega, by omega⟩ ⟨by omega, by omega⟩).mono ?_
            rintro e w5 ⟨rfl, hb⟩
            obtain ⟨y0, y1⟩ := HYB.out x
            generalize powE ⟨P, Q, G⟩ B x = y at y0 y1 ⊢
            have hw5 := hw4.trans (Within.of_below hb)
            have HC5 := Lib.hid (HC4.out.keep hb)
            have hqw5 := hw5.size
            have HOL5 := Lib.hid (HOL.out.below hb)
            clear hb
            refine hK.out _ _ ⟨hw5.mono (by omega) (Nat.le_refl _), within_at hw5 z0 (.inr (by omega)), within_at hw5 z1 (.inr (by omega)), within_at hw5 z2 (.inr (by omega))⟩ (fun _ => ?_)
            clear hK K
            try simp only [Act.put, List.setIfInBounds_toArray, List.set_cons_zero, List.set_cons_succ]
            refine wpV_do (by kernel_rfl) (fun K hK => ?_)
            go_simp
            go_at_call 142
            refine (spec_among U g _ _ [0, 10, 40, 1000] _ HC5.out ((HW.out.trans hw5).belowOf HUC.out (Nat.le_of_eq HUS.out)) (by omega) (Apart.of_ownI (HOL5.out) (by omega)) (by decide)).mono ?_
            rintro e w9 ⟨⟨M, rfl, hM⟩, hc, hw⟩
            have HM64 := Lib.hid (lit_I64 (l := [0, 10, 40, 1000]) rfl M hM)
            have hw9 := hw5.trans hw
            clear hc hw hM
            have hv9 : Within w.heap.size (g + 1) w2 w9 := hw9.mono (by omega) (Nat.le_refl _)
            refine hK.out _ _ ⟨hv9, within_at hw9 z0 (.inr (by omega)), within_at hw9 z1 (.inr (by omega)), within_at hw9 z2 (.inr (by omega))⟩ (fun _ => ?_)
            clear hK K
            try simp only [Act.put, List.setIfInBounds_toArray, List.set_cons_zero, List.set_cons_succ]
            have HX9 := Lib.hid (HX.out.kept hw9 (.inl (by omega)))
            have HB9 := Lib.hid ((HW.out.trans hw9).belowOf HBW.out (by omega))
            have hs9 := hw9.size
            clear hw9
            have r0 := HX9.out.cell (i := 0) rfl
            have r1 := HX9.out.cell (i := 1) rfl
            have r2 := HX9.out.cell (i := 2) rfl
            have fr := fun j => HX9.out.frozen j
            refine wpV_do (by kernel_rfl) (fun K hK => ?_)
            go_simp
            have hv4 : Within w.heap.size (g + 1) w2 (((w9.setCell ⟨w.heap.size, 0, none⟩ (.int .i64 P)).setCell ⟨w.heap.size, 1, none⟩ (.int .i64 Q)).setCell ⟨w.heap.size, 2, none⟩ (.int .i64 G)) := ((hv9.setCell (Nat.le_refl _) (by omega) _ _).setCell (Nat.le_refl _) (by omega) _ _).setCell (Nat.le_refl _) (by omega) _ _
            obtain ⟨Y, hY⟩ : ∃ Y, Y = (((w9.setCell ⟨w.heap.size, 0, none⟩ (.int .i64 P)).setCell ⟨w.heap.size, 1, none⟩ (.int .i64 Q)).setCell ⟨w.heap.size, 2, none⟩ (.int .i64 G)) := ⟨_, rfl⟩
            have HXY : Hid (BoxN Y w.heap.size 30 [.int .i64 P, .int .i64 Q, .int .i64 G]) := by unfold Hid; rw [hY]; exact ((HX9.out.set 0 _).set 1 _).set 2 _
            have HBY : Hid (Below w.heap.size w9 Y) := by unfold Hid; rw [hY]; exact (((Below.refl w.heap.size _).setCell (Nat.le_refl _) _).setCell (Nat.le_refl _) _).setCell (Nat.le_refl _) _
            rw [← hY] at hv4 ⊢
            clear hY r0 r1 r2 fr
            refine hK.out _ _ ⟨hv4, within_at hv4 z0 (.inr (by omega)), within_at hv4 z1 (.inr (by omega)), within_at hv4 z2 (.inr (by omega))⟩ (fun _ => ?_)
            clear hK K hv9 hv4 z0 z1 z2
            try simp only [Act.put, List.setIfInBounds_toArray, List.set_cons_zero, List.set_cons_succ]
            repeat (refine' wpV_read _ (by kernel_rfl) (fun w' hS' => ?_) ?_; rotate_left; · ((try dsimp only at hS'); go_simp; (try with_reducible rfl)); (try simp only [Act.put, List.setIfInBounds_toArray, List.set_cons_zero, List.set_cons_succ]))
            refine wpV_done ?_
            go_wp2_with fail
            refine NoPanic.normal ?_
            have r0 := HXY.out.cell (i := 0) rfl
            have r1 := HXY.out.cell (i := 1) rfl
            have r2 := HXY.out.cell (i := 2) rfl
            go_wp2_with fail
            refine bodyPost_ret (v := .tuple #[.agg #[.int .i64 P, .int .i64 Q, .int .i64 G], .int .i64 B, .int .i64 y, .int .i64 M]) (by simp [results, Try.results48, go_sem, r0, r1, r2]) rfl ⟨⟨P, Q, G, B, y, M, rfl, HGR.out, ⟨by omega, by omega⟩, ⟨by omega, by omega⟩, HM64.out⟩, HB9.out.trans HBY.out⟩
        · refine wpV_do (by kernel_rfl) (fun K hK => ?_)
          go_simp
          have hw3 : Within g (g + 1) w2 ((w2.alloc (.cells #[.int .i64 0, .int .i64 10, .int .i64 40, .int .i64 1000] 3)).drew) := ((Within.refl _ _ _).allocR _).drew
          refine hK.out _ _ ⟨hw3.mono (by omega) (Nat.le_refl _), within_at hw3 z0 (.inr (by omega)), within_at hw3 z1 (.inr (by omega)), within_at hw3 z2 (.inr (by omega))⟩ (fun _ => ?_)
          clear hK K
          try simp only [Act.put, List.setIfInBounds_toArray, List.set_cons_zero, List.set_cons_succ]
          have HOL : Hid (OwnI ((w2.alloc (.cells #[.int .i64 0, .int .i64 10, .int .i64 40, .int .i64 1000] 3)).drew) w2.heap.size (.slice (some ⟨w2.heap.size, 0, none⟩) 4 4) [0, 10, 40, 1000]) := (OwnI.lit w2 (Nat.le_refl _) (lit_I64 rfl) (by rfl) (by decide) 4 rfl).below (Below.refl _ _).drew
          have HC3 := Lib.hid (HC.out.keep (((Below.refl w2.heap.size w2).alloc (Nat.le_refl _) (.cells #[.int .i64 0, .int .i64 10, .int .i64 40, .int .i64 1000] 3)).drew))
          refine wpV_do (by kernel_rfl) (fun K hK => ?_)
          go_simp
          go_at_call 141
          refine (spec_pick U g _ 40 _ HC3.out ((HW.out.trans hw3).belowOf HUC.out (Nat.le_of_eq HUS.out)) (by omega)).mono ?_
          rintro e w4 ⟨⟨x, rfl, hx0, hx1, _, _⟩, hc, hw⟩
          have hw4 := hw3.trans hw
          have HC4 := Lib.hid hc
          have hqw4 := hw4.size
          have HOL4 := Lib.hid (HOL.out.within hw (by omega))
          clear hc hw
          refine hK.out _ _ ⟨hw4.mono (by omega) (Nat.le_refl _), within_at hw4 z0 (.inr (by omega)), within_at hw4 z1 (.inr (by omega)), within_at hw4 z2 (.inr (by omega))⟩ (fun _ => ?_)
          clear hK K
          try simp only [Act.put, List.setIfInBounds_toArray, List.set_cons_zero, List.set_cons_succ]
          refine wpV_do (by kernel_rfl) (fun K hK => ?_)
          go_simp
          go_at_call 140
          refine (spec_gExp ⟨P, Q, G⟩ B x _ HG.out ⟨by omega, by omega⟩ ⟨by omega, by omega⟩).mono ?_
          rintro e w5 ⟨rfl, hb⟩
          obtain ⟨y0, y1⟩ := HYB.out x
          generalize powE ⟨P, Q, G⟩ B x = y at y0 y1 ⊢
          have hw5 := hw4.trans (Within.of_below hb)
          have HC5 := Lib.hid (HC4.out.keep hb)
          have hqw5 := hw5.size
          have HOL5 := Lib.hid (HOL4.out.below hb)
          clear hb
          refine hK.out _ _ ⟨hw5.mono (by omega) (Nat.le_refl _), within_at hw5 z0 (.inr (by omega)), within_at hw5 z1 (.inr (by omega)), within_at hw5 z2 (.inr (by omega))⟩ (fun _ => ?_)
          clear hK K
          try simp only [Act.put, List.setIfInBounds_toArray, List.set_cons_zero, List.set_cons_succ]
          refine wpV_do (by kernel_rfl) (fun K hK => ?_)
          go_simp
          go_at_call 142
          refine (spec_among U g _ _ [0, 10, 40, 1000] _ HC5.out ((HW.out.trans hw5).belowOf HUC.out (Nat.le_of_eq HUS.out)) (by omega) (Apart.of_ownI (HOL5.out) (by omega)) (by decide)).mono ?_
          rintro e w9 ⟨⟨M, rfl, hM⟩, hc, hw⟩
          have HM64 := Lib.hid (lit_I64 (l := [0, 10, 40, 1000]) rfl M hM)
          have hw9 := hw5.trans hw
          clear hc hw hM
          have hv9 : Within w.heap.size (g + 1) w2 w9 := hw9.mono (by omega) (Nat.le_refl _)
          refine hK.out _ _ ⟨hv9, within_at hw9 z0 (.inr (by omega)), within_at hw9 z1 (.inr (by omega)), within_at hw9 z2 (.inr (by omega))⟩ (fun _ => ?_)
          clear hK K
          try simp only [Act.put, List.setIfInBounds_toArray, List.set_cons_zero, List.set_cons_succ]
          have HX9 := Lib.hid (HX.out.kept hw9 (.inl (by omega)))
          have HB9 := Lib.hid ((HW.out.trans hw9).belowOf HBW.out (by omega))
          have hs9 := hw9.size
          clear hw9
          have r0 := HX9.out.cell (i := 0) rfl
          have r1 := HX9.out.cell (i := 1) rfl
          have r2 := HX9.out.cell (i := 2) rfl
          have fr := fun j => HX9.out.frozen j
          refine wpV_do (by kernel_rfl) (fun K hK => ?_)
          go_simp
          have hv4 : Within w.heap.size (g + 1) w2 (((w9.setCell ⟨w.heap.size, 0, none⟩ (.int .i64 P)).setCell ⟨w.heap.size, 1, none⟩ (.int .i64 Q)).setCell ⟨w.heap.size, 2, none⟩ (.int .i64 G)) := ((hv9.setCell (Nat.le_refl _) (by omega) _ _).setCell (Nat.le_refl _) (by omega) _ _).setCell (Nat.le_refl _) (by omega) _ _
          obtain ⟨Y, hY⟩ : ∃ Y, Y = (((w9.setCell ⟨w.heap.size, 0, none⟩ (.int .i64 P)).setCell ⟨w.heap.size, 1, none⟩ (.int .i64 Q)).setCell ⟨w.heap.size, 2, none⟩ (.int .i64 G)) := ⟨_, rfl⟩
          have HXY : Hid (BoxN Y w.heap.size 30 [.int .i64 P, .int .i64 Q, .int .i64 G]) := by unfold Hid; rw [hY]; exact ((HX9.out.set 0 _).set 1 _).set 2 _
          have HBY : Hid (Below w.heap.size w9 Y) := by unfold Hid; rw [hY]; exact (((Below.refl w.heap.size _).setCell (Nat.le_refl _) _).setCell (Nat.le_refl _) _).setCell (Nat.le_refl _) _
          rw [← hY] at hv4 ⊢
          clear hY r0 r1 r2 fr
          refine hK.out _ _ ⟨hv4, within_at hv4 z0 (.inr (by omega)), within_at hv4 z1 (.inr (by omega)), within_at hv4 z2 (.inr (by omega))⟩ (fun _ => ?_)
          clear hK K hv9 hv4 z0 z1 z2
          try simp only [Act.put, List.setIfInBounds_toArray, List.set_cons_zero, List.set_cons_succ]
          repeat (refine' wpV_read _ (by kernel_rfl) (fun w' hS' => ?_) ?_; rotate_left; · ((try dsimp only at hS'); go_simp; (try with_reducible rfl)); (try simp only [Act.put, List.setIfInBounds_toArray, List.set_cons_zero, List.set_cons_succ]))
          refine wpV_done ?_
          go_wp2_with fail
          refine NoPanic.normal ?_
          have r0 := HXY.out.cell (i := 0) rfl
          have r1 := HXY.out.cell (i := 1) rfl
          have r2 := HXY.out.cell (i := 2) rfl
          go_wp2_with fail
          refine bodyPost_ret (v := .tuple #[.agg #[.int .i64 P, .int .i64 Q, .int .i64 G], .int .i64 B, .int .i64 y, .int .i64 M]) (by simp [results, Try.results48, go_sem, r0, r1, r2]) rfl ⟨⟨P, Q, G, B, y, M, rfl, HGR.out, ⟨by omega, by omega⟩, ⟨by omega, by omega⟩, HM64.out⟩, HB9.out.trans HBY.out⟩
end Go.Proofs.Ytcpigedjblkcfaa
