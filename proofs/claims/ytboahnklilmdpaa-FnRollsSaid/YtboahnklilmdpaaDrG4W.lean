/- Draws of exponents, elements. -/
import Derived.Test.YtboahnklilmdpaaDrG3W
namespace Go.Proofs.Ytboahnklilmdpaa
open Go.RowKit
set_option linter.unusedSimpArgs false
set_option linter.unusedVariables false

set_option maxRecDepth 100000 in
set_option maxHeartbeats 2000000 in
theorem spec_expo (w0 : World) (g : Nat) (n P Q G : Int) (w : World) (h : Cur w0 w g n) (hb : Below w0.heap.size w0 w) (hn : n ≤ 2000000000000000) (hgr : GrB ⟨P, Q, G⟩) :
    Calls Try.prog 159 #[.pointer (some ⟨g, 0, none⟩), .agg #[.int .i64 P, .int .i64 Q, .int .i64 G]] w fun e w' => (∃ x : Int, e = .returned (.int .i64 x) ∧ 0 ≤ x ∧ x ≤ 2000000010) ∧ Cur w0 w' g (n + 4) ∧ Within g (g + 1) w w' := by
  obtain ⟨⟨P1, P2⟩, ⟨Q1, Q2⟩, ⟨G1, G2⟩⟩ := hgr
  simp only [] at P1 P2 Q1 Q2 G1 G2
  have HC := Lib.hid h
  have hg := h.lt
  have hg0 := h.ge
  have HB0 := Lib.hid hb
  clear h hb
  obtain ⟨W, hW⟩ : ∃ W, W = w.alloc (.cells #[.int .i64 P, .int .i64 Q, .int .i64 G] 39) := ⟨_, rfl⟩
  have hbW : Below w.heap.size w W := by rw [hW]; exact (Below.refl _ _).alloc (Nat.le_refl _) _
  have HX : Hid (BoxN W w.heap.size 39 [.int .i64 P, .int .i64 Q, .int .i64 G]) := by unfold Hid; rw [hW]; exact BoxN.new w _ _
  have HSW : Hid (W.heap.size = w.heap.size + 1) := by unfold Hid; rw [hW]; simp
  have hsW : w.heap.size < W.heap.size := by have := HSW.out; omega
  replace HC := Lib.hid (HC.out.keep hbW)
  have HBW := Lib.hid hbW
  have HWW : Hid (Within g (g + 1) w W) := Within.of_below hbW
  have HB1 := Lib.hid (Below.next HB0.out hbW)
  clear hbW
  have c0 := HX.out.cell (i := 0) rfl
  have c1 := HX.out.cell (i := 1) rfl
  have c2 := HX.out.cell (i := 2) rfl
  by_cases hq : Q < 2
  · go_enter Try.func159, Try.ntmps159
    go_wp2_with fail
    rw [← hW]
    clear hW
    try (go_wp2_with fail)
    go_ret
    exact ⟨⟨0, rfl, by omega, by omega⟩, HC.out.mono (by omega), HWW.out⟩
  · go_enter Try.func159, Try.ntmps159
    go_wp2_with fail
    rw [← hW]
    clear hW
    try (go_wp2_with fail)
    have hqz : ¬ Q = 0 := by omega
    have hqz2 : (Q == 0) = false := by rw [beq_eq_false_iff_ne]; omega
    refine wp_region_noPanic ?_
    refine wp_region_take (fun w' => Within g (g + 1) W w' ∧ w'.cell? ⟨w.heap.size, 1, none⟩ = some (.int .i64 Q)) 16 [(true, 0), (true, 3), (true, 6), (true, 7), (false, 1), (true, 2), (false, 4), (true, 5), (true, 8)] [9] (by kernel_rfl) (by kernel_rfl) rfl (fun _ _ _ _ _ h => h) ⟨(Within.refl _ _ _).drew, c1⟩ ?_
    simp only [pickL, pickN, List.getElem?_cons_zero, List.getElem?_cons_succ]
    have hwz : Within g (g + 1) W W.drew := (Within.refl _ _ _).drew
    repeat (refine' wpTake_read _ (by rfl) (fun w' hS' => ?_) ?_; rotate_left; · ((try dsimp only at hS'); go_simp; (try with_reducible rfl)); (try simp only [Act.put, List.setIfInBounds_toArray, List.set_cons_zero, List.set_cons_succ]))
    refine wpTake_do (by rfl) (fun K hK => ?_)
    go_simp
    go_at_call 158
    refine (spec_pick w0 g _ 60000 _ (HC.out.keep (Below.refl _ _).drew) (hwz.belowOf HB1.out (by omega)) (by omega)).mono ?_
    rintro e w4 ⟨⟨x, rfl, hx0, _, hx1, _⟩, hc, hw⟩
    replace hx1 := hx1 (by omega)
    have hw4 := hwz.trans hw
    have HC4 := Lib.hid hc
    clear hc hw hwz
    have em : IntKind.i64.wrap (x * 60000) = x * 60000 := IntWalk.i64_in _ (by omega)
    refine hK.out _ _ ⟨hw4, within_at hw4 c1 (.inr (by omega))⟩ (fun _ => ?_)
    clear hK K
    try simp only [Act.put, List.setIfInBounds_toArray, List.set_cons_zero, List.set_cons_succ]
    repeat (refine' wpTake_read _ (by rfl) (fun w' hS' => ?_) ?_; rotate_left; · ((try dsimp only at hS'); go_simp; (try with_reducible rfl)); (try simp only [Act.put, List.setIfInBounds_toArray, List.set_cons_zero, List.set_cons_succ]))
    refine wpTake_do (by rfl) (fun K hK => ?_)
    go_simp
    go_at_call 158
    refine (spec_pick w0 g _ 60000 _ HC4.out (hw4.belowOf HB1.out (by omega)) (by omega)).mono ?_
    rintro e w5 ⟨⟨y, rfl, hy0, _, hy1, _⟩, hc, hw⟩
    replace hy1 := hy1 (by omega)
    have hw5 := hw4.trans hw
    have HC5 := Lib.hid hc
    clear hc hw hw4
    have r0 : 0 ≤ (x * 60000 + y) % Q := Int.emod_nonneg _ hqz
    have r1 : (x * 60000 + y) % Q < Q := Int.emod_lt_of_pos _ (by omega)
    have et : Int.tmod (x * 60000 + y) Q = (x * 60000 + y) % Q := Int.tmod_eq_emod_of_nonneg (by omega)
    have ea : IntKind.i64.wrap (x * 60000 + y) = x * 60000 + y := IntWalk.i64_in _ (by omega)
    have er : IntKind.i64.wrap ((x * 60000 + y) % Q) = (x * 60000 + y) % Q := IntWalk.i64_in _ (by omega)
    refine hK.out _ _ ⟨hw5, within_at hw5 c1 (.inr (by omega))⟩ (fun _ => ?_)
    clear hK K
    try simp only [Act.put, List.setIfInBounds_toArray, List.set_cons_zero, List.set_cons_succ]
    repeat (refine' wpTake_read _ (by rfl) (fun w' hS' => ?_) ?_; rotate_left; · ((try dsimp only at hS'); go_simp; (try with_reducible rfl)); (try simp only [Act.put, List.setIfInBounds_toArray, List.set_cons_zero, List.set_cons_succ]))
    refine wpTake_nil ?_
    have HW5 := Lib.hid (HWW.out.trans hw5)
    clear hw5 c0 c1 c2
    go_wp2_with fail
    refine NoPanic.normal ?_
    go_wp2_with fail
    go_ret
    exact ⟨⟨_, rfl, by omega, by omega⟩, HC5.out.mono (by omega), HW5.out⟩
set_option maxRecDepth 100000 in
set_option maxHeartbeats 2000000 in
theorem spec_element (w0 : World) (g : Nat) (n P Q G : Int) (w : World) (h : Cur w0 w g n) (hb : Below w0.heap.size w0 w) (hn : n ≤ 1500000000000000) (hgr : GrB ⟨P, Q, G⟩) :
    Calls Try.prog 257 #[.pointer (some ⟨g, 0, none⟩), .agg #[.int .i64 P, .int .i64 Q, .int .i64 G]] w fun e w' => (∃ x : Int, e = .returned (.int .i64 x) ∧ 0 ≤ x ∧ x ≤ 2000000010) ∧ Cur w0 w' g (n + 4) ∧ Within g (g + 1) w w' := by
  have HGR := Lib.hid hgr
  obtain ⟨⟨P1, P2⟩, ⟨Q1, Q2⟩, ⟨G1, G2⟩⟩ := hgr
  simp only [] at P1 P2 Q1 Q2 G1 G2
  have HC := Lib.hid h
  have hg := h.lt
  have hg0 := h.ge
  have HB0 := Lib.hid hb
  clear h hb
  obtain ⟨W, hW⟩ : ∃ W, W = w.alloc (.cells #[.int .i64 P, .int .i64 Q, .int .i64 G] 39) := ⟨_, rfl⟩
  have hbW : Below w.heap.size w W := by rw [hW]; exact (Below.refl _ _).alloc (Nat.le_refl _) _
  have HX : Hid (BoxN W w.heap.size 39 [.int .i64 P, .int .i64 Q, .int .i64 G]) := by unfold Hid; rw [hW]; exact BoxN.new w _ _
  have HSW : Hid (W.heap.size = w.heap.size + 1) := by unfold Hid; rw [hW]; simp
  have hsW : w.heap.size < W.heap.size := by have := HSW.out; omega
  replace HC := Lib.hid (HC.out.keep hbW)
  have HBW := Lib.hid hbW
  have HWW : Hid (Within g (g + 1) w W) := Within.of_below hbW
  have HB1 := Lib.hid (Below.next HB0.out hbW)
  clear hbW
  have c0 := HX.out.cell (i := 0) rfl
  have c1 := HX.out.cell (i := 1) rfl
  have c2 := HX.out.cell (i := 2) rfl
  by_cases hp : P < 3
  · go_enter Try.func257, Try.ntmps257
    go_wp2_with fail
    rw [← hW]
    clear hW
    try (go_wp2_with fail)
    go_ret
    exact ⟨⟨1, rfl, by omega, by omega⟩, HC.out.mono (by omega), HWW.out⟩
  by_cases hq : Q < 1
  · go_enter Try.func257, Try.ntmps257
    go_wp2_with fail
    rw [← hW]
    clear hW
    try (go_wp2_with fail)
    go_ret
    exact ⟨⟨1, rfl, by omega, by omega⟩, HC.out.mono (by omega), HWW.out⟩
  · go_enter Try.func257, Try.ntmps257
    go_wp2_with fail
    rw [← hW]
    clear hW
    try (go_wp2_with fail)
    have hm0 : 0 ≤ G % P := Int.emod_nonneg _ (by omega)
    have hm1 : G % P < P := Int.emod_lt_of_pos _ (by omega)
    refine wp_region_noPanic ?_
    refine wp_region_take (fun w' => Within g (g + 1) W w' ∧ w'.cell? ⟨w.heap.size, 0, none⟩ = some (.int .i64 P) ∧ w'.cell? ⟨w.heap.size, 1, none⟩ = some (.int .i64 Q) ∧ w'.cell? ⟨w.heap.size, 2, none⟩ = some (.int .i64 G)) 16 [(true, 0), (true, 1), (true, 2), (true, 3), (true, 4), (true, 6), (true, 7), (false, 5), (false, 8), (false, 9)] [10] (by kernel_rfl) (by kernel_rfl) rfl (fun _ _ _ _ _ h => h) ⟨(Within.refl _ _ _).drew, c0, c1, c2⟩ ?_
    simp only [pickL, pickN, List.getElem?_cons_zero, List.getElem?_cons_succ]
    have hwz : Within g (g + 1) W W.drew := (Within.refl _ _ _).drew
    repeat (refine' wpTake_read _ (by rfl) (fun w' hS' => ?_) ?_; rotate_left; · ((try dsimp only at hS'); go_simp; (try with_reducible rfl)); (try simp only [Act.put, List.setIfInBounds_toArray, List.set_cons_zero, List.set_cons_succ]))
    refine wpTake_do (by rfl) (fun K hK => ?_)
    go_simp
    go_at_call 180
    refine (spec_nMod G P _ ⟨by omega, by omega⟩ (by omega) (by omega)).mono ?_
    rintro e w4 ⟨rfl, rfl⟩
    refine hK.out _ _ ⟨hwz, within_at hwz c0 (.inr (by omega)), within_at hwz c1 (.inr (by omega)), within_at hwz c2 (.inr (by omega))⟩ (fun _ => ?_)
    clear hK K
    try simp only [Act.put, List.setIfInBounds_toArray, List.set_cons_zero, List.set_cons_succ]
    refine wpTake_do (by rfl) (fun K hK => ?_)
    go_simp
    go_at_call 159
    refine (spec_expo w0 g _ P Q G _ (HC.out.keep (Below.refl _ _).drew) (hwz.belowOf HB1.out (by omega)) (by omega) HGR.out).mono ?_
    rintro e w5 ⟨⟨y, rfl, hy0, hy1⟩, hc, hw⟩
    have hw5 := hwz.trans hw
    have HC5 := Lib.hid hc
    clear hc hw hwz
    refine hK.out _ _ ⟨hw5, within_at hw5 c0 (.inr (by omega)), within_at hw5 c1 (.inr (by omega)), within_at hw5 c2 (.inr (by omega))⟩ (fun _ => ?_)
    clear hK K
    try simp only [Act.put, List.setIfInBounds_toArray, List.set_cons_zero, List.set_cons_succ]
    refine wpTake_do (by rfl) (fun K hK => ?_)
    go_simp
    go_at_call 156
    refine (spec_gExpW ⟨P, Q, G⟩ (G % P) y _ ⟨by show (1 : Int) ≤ P; omega, by show P ≤ 3000000000; omega⟩ ⟨by show (1 : Int) ≤ Q; omega, by show Q ≤ 3000000000; omega⟩ ⟨by omega, by omega⟩ ⟨by omega, by omega⟩).mono ?_
    rintro e w6 ⟨⟨z, rfl, hz0, hz1⟩, hb6⟩
    replace hz1 : z < P := hz1
    have hw6 := hw5.trans (Within.of_below hb6)
    have HC6 := Lib.hid (HC5.out.keep hb6)
    clear hb6 hw5
    refine hK.out _ _ ⟨hw6, within_at hw6 c0 (.inr (by omega)), within_at hw6 c1 (.inr (by omega)), within_at hw6 c2 (.inr (by omega))⟩ (fun _ => ?_)
    clear hK K
    try simp only [Act.put, List.setIfInBounds_toArray, List.set_cons_zero, List.set_cons_succ]
    refine wpTake_nil ?_
    have HW6 := Lib.hid (HWW.out.trans hw6)
    clear hw6 c0 c1 c2
    go_wp2_with fail
    refine NoPanic.normal ?_
    go_wp2_with fail
    go_ret
    exact ⟨⟨_, rfl, by omega, by omega⟩, HC6.out.mono (by omega), HW6.out⟩
set_option maxRecDepth 100000 in
set_option maxHeartbeats 2000000 in
theorem spec_anyElement (w0 : World) (g : Nat) (n P Q G : Int) (w : World) (h : Cur w0 w g n) (hb : Below w0.heap.size w0 w) (hn : n ≤ 1000000000000000) (hgr : GrB ⟨P, Q, G⟩) :
    Calls Try.prog 135 #[.pointer (some ⟨g, 0, none⟩), .agg #[.int .i64 P, .int .i64 Q, .int .i64 G]] w fun e w' => (∃ x : Int, e = .returned (.int .i64 x) ∧ -10 ≤ x ∧ x ≤ 2000000010) ∧ Cur w0 w' g (n + 6) ∧ Within g (g + 1) w w' := by
  have HGR := Lib.hid hgr
  obtain ⟨⟨P1, P2⟩, ⟨Q1, Q2⟩, ⟨G1, G2⟩⟩ := hgr
  simp only [] at P1 P2 Q1 Q2 G1 G2
  have HC := Lib.hid h
  have hg := h.lt
  have hg0 := h.ge
  have HB0 := Lib.hid hb
  clear h hb
  obtain ⟨W, hW⟩ : ∃ W, W = w.alloc (.cells #[.int .i64 P, .int .i64 Q, .int .i64 G] 39) := ⟨_, rfl⟩
  have hbW : Below w.heap.size w W := by rw [hW]; exact (Below.refl _ _).alloc (Nat.le_refl _) _
  have HX : Hid (BoxN W w.heap.size 39 [.int .i64 P, .int .i64 Q, .int .i64 G]) := by unfold Hid; rw [hW]; exact BoxN.new w _ _
  have HSW : Hid (W.heap.size = w.heap.size + 1) := by unfold Hid; rw [hW]; simp
  have hsW : w.heap.size < W.heap.size := by have := HSW.out; omega
  replace HC := Lib.hid (HC.out.keep hbW)
  have HBW := Lib.hid hbW
  have HWW : Hid (Within g (g + 1) w W) := Within.of_below hbW
  have HB1 := Lib.hid (Below.next HB0.out hbW)
  clear hbW
  have ew1 : IntKind.i64.wrap (P - 1) = P - 1 := IntWalk.i64_in _ (by omega)
  have ew2 : IntKind.i64.wrap (Q - 1) = Q - 1 := IntWalk.i64_in _ (by omega)
  go_enter Try.func135, Try.ntmps135
  go_wp2_with fail
  rw [← hW]
  clear hW
  refine (spec_one w0 g _ 20 _ HC.out HB1.out (by omega)).mono ?_
  rintro e w1 ⟨⟨q, rfl⟩, hc, hw⟩
  replace HX := Lib.hid (HX.out.kept hw (.inr (by omega)))
  replace HWW := Lib.hid (HWW.out.trans hw)
  replace HB1 := Lib.hid (hw.belowOf HB1.out (by omega))
  replace HC := Lib.hid hc
  have hs1 := hw.size
  clear hc hw
  have c0 := HX.out.cell (i := 0) rfl
  have c1 := HX.out.cell (i := 1) rfl
  have c2 := HX.out.cell (i := 2) rfl
  cases q with
  | false =>
    go_wp2_with fail
    refine (spec_element w0 g _ P Q G _ HC.out HB1.out (by omega) HGR.out).mono ?_
    rintro e w2 ⟨⟨x, rfl, hx0, hx1⟩, hc, hw⟩
    have HW2 := Lib.hid (HWW.out.trans hw)
    have HC2 := Lib.hid hc
    clear hc hw c0 c1 c2
    go_wp2_with fail
    go_ret
    exact ⟨⟨x, rfl, by omega, by omega⟩, HC2.out.mono (by omega), HW2.out⟩
  | true =>
    go_wp2_with fail
    refine (spec_among w0 g _ _ [0, 1, P - 1, P, -1, 5] _ (HC.out.keep ((Below.refl _ _).alloc (Nat.le_refl _) _)) (HB1.out.alloc HB1.out.size _) (by omega) (Apart.of_ownI (OwnI.lit w1 (Nat.le_refl _) (lit_I64 (by simp; omega)) (by rfl) (by simp; decide) 6 rfl) (by omega)) (by simp)).mono ?_
    rintro e w3 ⟨⟨x, rfl, hx⟩, hc, hw⟩
    have hxb : -10 ≤ x ∧ x ≤ 2000000010 := by
      simp only [List.mem_cons, List.not_mem_nil, or_false] at hx
      omega
    have HW2 := Lib.hid ((HWW.out.allocR _).trans hw)
    have HC2 := Lib.hid hc
    clear hc hw hx c0 c1 c2
    go_wp2_with fail
    go_ret
    exact ⟨⟨x, rfl, by omega, by omega⟩, HC2.out.mono (by omega), HW2.out⟩
set_option maxRecDepth 100000 in
set_option maxHeartbeats 2000000 in
theorem spec_anyExpo (w0 : World) (g : Nat) (n P Q G : Int) (w : World) (h : Cur w0 w g n) (hb : Below w0.heap.size w0 w) (hn : n ≤ 1000000000000000) (hgr : GrB ⟨P, Q, G⟩) :
    Calls Try.prog 147 #[.pointer (some ⟨g, 0, none⟩), .agg #[.int .i64 P, .int .i64 Q, .int .i64 G]] w fun e w' => (∃ x : Int, e = .returned (.int .i64 x) ∧ -10 ≤ x ∧ x ≤ 2000000010) ∧ Cur w0 w' g (n + 6) ∧ Within g (g + 1) w w' := by
  have HGR := Lib.hid hgr
  obtain ⟨⟨P1, P2⟩, ⟨Q1, Q2⟩, ⟨G1, G2⟩⟩ := hgr
  simp only [] at P1 P2 Q1 Q2 G1 G2
  have HC := Lib.hid h
  have hg := h.lt
  have hg0 := h.ge
  have HB0 := Lib.hid hb
  clear h hb
  obtain ⟨W, hW⟩ : ∃ W, W = w.alloc (.cells #[.int .i64 P, .int .i64 Q, .int .i64 G] 39) := ⟨_, rfl⟩
  have hbW : Below w.heap.size w W := by rw [hW]; exact (Below.refl _ _).alloc (Nat.le_refl _) _
  have HX : Hid (BoxN W w.heap.size 39 [.int .i64 P, .int .i64 Q, .int .i64 G]) := by unfold Hid; rw [hW]; exact BoxN.new w _ _
  have HSW : Hid (W.heap.size = w.heap.size + 1) := by unfold Hid; rw [hW]; simp
  have hsW : w.heap.size < W.heap.size := by have := HSW.out; omega
  replace HC := Lib.hid (HC.out.keep hbW)
  have HBW := Lib.hid hbW
  have HWW : Hid (Within g (g + 1) w W) := Within.of_below hbW
  have HB1 := Lib.hid (Below.next HB0.out hbW)
  clear hbW
  have ew1 : IntKind.i64.wrap (P - 1) = P - 1 := IntWalk.i64_in _ (by omega)
  have ew2 : IntKind.i64.wrap (Q - 1) = Q - 1 := IntWalk.i64_in _ (by omega)
  go_enter Try.func147, Try.ntmps147
  go_wp2_with fail
  rw [← hW]
  clear hW
  refine (spec_one w0 g _ 24 _ HC.out HB1.out (by omega)).mono ?_
  rintro e w1 ⟨⟨q, rfl⟩, hc, hw⟩
  replace HX := Lib.hid (HX.out.kept hw (.inr (by omega)))
  replace HWW := Lib.hid (HWW.out.trans hw)
  replace HB1 := Lib.hid (hw.belowOf HB1.out (by omega))
  replace HC := Lib.hid hc
  have hs1 := hw.size
  clear hc hw
  have c0 := HX.out.cell (i := 0) rfl
  have c1 := HX.out.cell (i := 1) rfl
  have c2 := HX.out.cell (i := 2) rfl
  cases q with
  | false =>
    go_wp2_with fail
    refine (spec_expo w0 g _ P Q G _ HC.out HB1.out (by omega) HGR.out).mono ?_
    rintro e w2 ⟨⟨x, rfl, hx0, hx1⟩, hc, hw⟩
    have HW2 := Lib.hid (HWW.out.trans hw)
    have HC2 := Lib.hid hc
    clear hc hw c0 c1 c2
    go_wp2_with fail
    go_ret
    exact ⟨⟨x, rfl, by omega, by omega⟩, HC2.out.mono (by omega), HW2.out⟩
  | true =>
    go_wp2_with fail
    refine (spec_among w0 g _ _ [Q, -1, Q - 1] _ (HC.out.keep ((Below.refl _ _).alloc (Nat.le_refl _) _)) (HB1.out.alloc HB1.out.size _) (by omega) (Apart.of_ownI (OwnI.lit w1 (Nat.le_refl _) (lit_I64 (by simp; omega)) (by rfl) (by simp; decide) 3 rfl) (by omega)) (by simp)).mono ?_
    rintro e w3 ⟨⟨x, rfl, hx⟩, hc, hw⟩
    have hxb : -10 ≤ x ∧ x ≤ 2000000010 := by
      simp only [List.mem_cons, List.not_mem_nil, or_false] at hx
      omega
    have HW2 := Lib.hid ((HWW.out.allocR _).trans hw)
    have HC2 := Lib.hid hc
    clear hc hw hx c0 c1 c2
    go_wp2_with fail
    go_ret
    exact ⟨⟨x, rfl, by omega, by omega⟩, HC2.out.mono (by omega), HW2.out⟩
set_option maxRecDepth 100000 in
set_option maxHeartbeats 2000000 in
theorem spec_coins (w0 : World) (g : Nat) (n P Q G : Int) (m : Nat) (w : World) (h : Cur w0 w g n) (hb : Below w0.heap.size w0 w) (hn : n ≤ 1000000000000000) (hgr : GrB ⟨P, Q, G⟩) (hm : m ≤ 1000) :
    Calls Try.prog 258 #[.pointer (some ⟨g, 0, none⟩), .agg #[.int .i64 P, .int .i64 Q, .int .i64 G], .int .i64 m] w fun e w' => (∃ v' l, e = .returned v' ∧ OwnI w' w.heap.size v' l ∧ l.length = m ∧ ∀ x ∈ l, 0 ≤ x ∧ x ≤ 2000000010) ∧ Cur w0 w' g (n + 4 * 1000) ∧ Within g (g + 1) w w' := by
  have HGR := Lib.hid hgr
  clear hgr
  have HC := Lib.hid h
  have hg := h.lt
  have hg0 := h.ge
  have HB0 := Lib.hid hb
  clear h hb
  obtain ⟨W, hW⟩ : ∃ W, W = w.alloc (.cells #[.int .i64 P, .int .i64 Q, .int .i64 G] 39) := ⟨_, rfl⟩
  have hbW : Below w.heap.size w W := by rw [hW]; exact (Below.refl _ _).alloc (Nat.le_refl _) _
  have HX : Hid (BoxN W w.heap.size 39 [.int .i64 P, .int .i64 Q, .int .i64 G]) := by unfold Hid; rw [hW]; exact BoxN.new w _ _
  have HSW : Hid (W.heap.size = w.heap.size + 1) := by unfold Hid; rw [hW]; simp
  have hsW : w.heap.size < W.heap.size := by have := HSW.out; omega
  replace HC := Lib.hid (HC.out.keep hbW)
  have HBW := Lib.hid hbW
  have HWW : Hid (Within g (g + 1) w W) := Within.of_below hbW
  have HB1 := Lib.hid (Below.next HB0.out hbW)
  clear hbW
  have HO0 : Hid (∀ u B, OwnI u B (.slice none 0 0) []) := fun u B => OwnI.nil u _
  go_enter Try.func258, Try.ntmps258
  go_wp2_with fail
  rw [← hW]
  clear hW
  try (go_wp2_with fail)
  go_loopg [7, 2] m (fun gk ov kv wr => ∃ l : List Int, l.length + gk = m ∧ kv = .int .i64 (gk : Int) ∧ OwnI wr W.heap.size ov l ∧ (∀ x ∈ l, 0 ≤ x ∧ x ≤ 2000000010) ∧ Cur w0 wr g (n + 4 * ((m : Int) - gk)) ∧ Within g (g + 1) W wr)
  case atStart => exact ⟨[], by simp, rfl, HO0.out _ _, by simp, HC.out.mono (by omega), Within.refl _ _ _⟩
  case round =>
    obtain ⟨l, hl, rfl, hO, hall, hC, hWr⟩ := hrel
    have HXr := Lib.hid (HX.out.kept hWr (.inr (by omega)))
    have c0 := HXr.out.cell (i := 0) rfl
    have c1 := HXr.out.cell (i := 1) rfl
    have c2 := HXr.out.cell (i := 2) rfl
    have HC' := Lib.hid hC
    have HWr := Lib.hid hWr
    have HAL := Lib.hid hall
    have hsr := hWr.size
    obtain ⟨ao, co, rfl⟩ := hO.shape
    obtain ⟨k, hk⟩ : ∃ k, l.length = k := ⟨_, rfl⟩
    rw [hk] at hO hl ⊢
    have HK := Lib.hid hk
    have HO := Lib.hid hO
    clear hC hWr hO hk hall
    cases gk with
    | zero =>
      go_wp2_with fail
      go_ret
      exact ⟨⟨_, l, rfl, HO.out.mono (by omega), by rw [HK.out]; omega, HAL.out⟩, HC'.out.mono (by omega), HWW.out.trans HWr.out⟩
    | succ f =>
      have ef : ((f + 1 : Nat) : Int) = (f : Int) + 1 := by omega
      have ew : IntKind.i64.wrap ((f : Int) + 1 - 1) = (f : Int) := by rw [show (f : Int) + 1 - 1 = f by omega]; exact IntWalk.i64_in _ (by omega)
      rw [ef]
      have hpos : (0 : Int) < (f : Int) + 1 := by omega
      go_wp2_with fail
      refine (spec_expo w0 g _ P Q G _ HC'.out (HWr.out.belowOf HB1.out (by omega)) (by omega) HGR.out).mono ?_
      rintro e w3 ⟨⟨z, rfl, hz0, hz1⟩, hc, hw⟩
      have hs3 := hw.size
      have HO3 := Lib.hid (HO.out.within hw (by omega))
      have HC3 := Lib.hid (hc.mono (n' := n + 4 * ((m : Int) - f)) (by omega))
      have HW3 := Lib.hid (HWr.out.trans hw)
      clear hc hw c0 c1 c2 HO
      go_wp2_with (at_builtin; refine wpList_append_ints rfl _ _ rfl W.heap.size _ _ l [z] rfl (HO3.out.alloc _) rfl (Ints.lit1 _ ⟨by omega, by omega⟩) (by rw [HK.out]; simp; omega) (by simp; omega) ?_; intro v4 w4 hown4 hgr4)
      have hb4 := (HO3.out.alloc _).grown hgr4 (by simp; omega)
      have hb5 := ((Below.refl W.heap.size w3).alloc (by omega) _).trans hb4
      go_roundg f
      case measure => omega
      case rel => exact ⟨l ++ [z], by rw [List.length_append, HK.out]; simp; omega, by go_num, hown4, fun x hx => by
        rcases List.mem_append.1 hx with h1 | h1
        · exact HAL.out x h1
        · rw [List.mem_singleton.1 h1]; exact ⟨hz0, hz1⟩, HC3.out.belowB hb5 (by omega), HW3.out.belowStep hb5⟩
end Go.Proofs.Ytboahnklilmdpaa
