/- Draws of exponents, elements. -/
import Derived.Test.YtacpnphfopmofaaDrG3P
import Derived.Test.YtacpnphfopmofaaBaP
import Derived.Test.YtacpnphfopmofaaBmP
import Derived.Test.YtacpnphfopmofaaBgP
namespace Go.Proofs.Ytacpnphfopmofaa
open Go.RowKit
set_option linter.unusedSimpArgs false
set_option linter.unusedVariables false

set_option maxRecDepth 100000 in
set_option maxHeartbeats 2000000 in
theorem spec_expo (w0 : World) (g : Nat) (n P Q G : Int) (w : World) (h : Cur w0 w g n) (hb : Below w0.heap.size w0 w) (hn : n ≤ 2000000000000000) (hgr : GrB ⟨P, Q, G⟩) :
    Calls Try.prog 62 #[.pointer (some ⟨g, 0, none⟩), .agg #[.int .i64 P, .int .i64 Q, .int .i64 G]] w fun e w' => (∃ x : Int, e = .returned (.int .i64 x) ∧ 0 ≤ x ∧ x ≤ 2000000010) ∧ Cur w0 w' g (n + 4) ∧ Within g (g + 1) w w' := by
  obtain ⟨⟨P1, P2⟩, ⟨Q1, Q2⟩, ⟨G1, G2⟩⟩ := hgr
  simp only [] at P1 P2 Q1 Q2 G1 G2
  have HC := Lib.hid h
  have hg := h.lt
  have hg0 := h.ge
  have HB0 := Lib.hid hb
  clear h hb
  obtain ⟨W, hW⟩ : ∃ W, W = w.alloc (.cells #[.int .i64 P, .int .i64 Q, .int .i64 G] 24) := ⟨_, rfl⟩
  have hbW : Below w.heap.size w W := by rw [hW]; exact (Below.refl _ _).alloc (Nat.le_refl _) _
  have HX : Hid (BoxN W w.heap.size 24 [.int .i64 P, .int .i64 Q, .int .i64 G]) := by unfold Hid; rw [hW]; exact BoxN.new w _ _
  have HSW : Hid (W.heap.size = w.heap.size + 1) := by unfold Hid; rw [hW]; simp
  have hsW : w.heap.size < W.heap.size := by have := HSW.out; omega
  replace HC := Lib.hid (HC.out.keep hbW)
  have HBW := Lib.hid hbW
  have HWW : Hid (Within g (g + 1) w W) := Within.of_below hbW
  have HB1 := Lib.hid (Below.next HB0.out hbW)
  clear hbW
  have c0 := HX.out.cell (i := 0) rfl
  have c1 := HX.out.cell (i := 1) rfl
  have c2 := HX.out.cell (i := 2) rfl
  by_cases hq : Q < 2
  · go_enter Try.func62, Try.ntmps62
    go_wp2_with fail
    rw [← hW]
    clear hW
    try (go_wp2_with fail)
    go_ret
    exact ⟨⟨0, rfl, by omega, by omega⟩, HC.out.mono (by omega), HWW.out⟩
  · go_enter Try.func62, Try.ntmps62
    go_wp2_with fail
    rw [← hW]
    clear hW
    try (go_wp2_with fail)
    have hqz : ¬ Q = 0 := by omega
    have hqz2 : (Q == 0) = false := by rw [beq_eq_false_iff_ne]; omega
    refine wp_region_noPanic ?_
    refine wp_region_take (fun w' => Within g (g + 1) W w' ∧ w'.cell? ⟨w.heap.size, 1, none⟩ = some (.int .i64 Q)) 16 [(true, 0), (true, 3), (true, 6), (true, 7), (false, 1), (true, 2), (false, 4), (true, 5), (true, 8)] [9] (by kernel_rfl) (by kernel_rfl) rfl (fun _ _ _ _ _ h => h) ⟨(Within.refl _ _ _).drew, c1⟩ ?_
    simp only [pickL, pickN, List.getElem?_cons_zero, List.getElem?_cons_succ]
    have hwz : Within g (g + 1) W W.drew := (Within.refl _ _ _).drew
    repeat (refine' wpTake_read _ (by rfl) (fun w' hS' => ?_) ?_; rotate_left; · ((try dsimp only at hS'); go_simp; (try with_reducible rfl)); (try simp only [Act.put, List.setIfInBounds_toArray, List.set_cons_zero, List.set_cons_succ]))
    refine wpTake_do (by rfl) (fun K hK => ?_)
    go_simp
    go_at_call 72
    refine (spec_pick w0 g _ 60000 _ (HC.out.keep (Below.refl _ _).drew) (hwz.belowOf HB1.out (by omega)) (by omega)).mono ?_
    rintro e w4 ⟨⟨x, rfl, hx0, _, hx1, _⟩, hc, hw⟩
    replace hx1 := hx1 (by omega)
    have hw4 := hwz.trans hw
    have HC4 := Lib.hid hc
    clear hc hw hwz
    have em : IntKind.i64.wrap (x * 60000) = x * 60000 := IntWalk.i64_in _ (by omega)
    refine hK.out _ _ ⟨hw4, within_at hw4 c1 (.inr (by omega))⟩ (fun _ => ?_)
    clear hK K
    try simp only [Act.put, List.setIfInBounds_toArray, List.set_cons_zero, List.set_cons_succ]
    repeat (refine' wpTake_read _ (by rfl) (fun w' hS' => ?_) ?_; rotate_left; · ((try dsimp only at hS'); go_simp; (try with_reducible rfl)); (try simp only [Act.put, List.setIfInBounds_toArray, List.set_cons_zero, List.set_cons_succ]))
    refine wpTake_do (by rfl) (fun K hK => ?_)
    go_simp
    go_at_call 72
    refine (spec_pick w0 g _ 60000 _ HC4.out (hw4.belowOf HB1.out (by omega)) (by omega)).mono ?_
    rintro e w5 ⟨⟨y, rfl, hy0, _, hy1, _⟩, hc, hw⟩
    replace hy1 := hy1 (by omega)
    have hw5 := hw4.trans hw
    have HC5 := Lib.hid hc
    clear hc hw hw4
    have r0 : 0 ≤ (x * 60000 + y) % Q := Int.emod_nonneg _ hqz
    have r1 : (x * 60000 + y) % Q < Q := Int.emod_lt_of_pos _ (by omega)
    have et : Int.tmod (x * 60000 + y) Q = (x * 60000 + y) % Q := Int.tmod_eq_emod_of_nonneg (by omega)
    have ea : IntKind.i64.wrap (x * 60000 + y) = x * 60000 + y := IntWalk.i64_in _ (by omega)
    have er : IntKind.i64.wrap ((x * 60000 + y) % Q) = (x * 60000 + y) % Q := IntWalk.i64_in _ (by omega)
    refine hK.out _ _ ⟨hw5, within_at hw5 c1 (.inr (by omega))⟩ (fun _ => ?_)
    clear hK K
    try simp only [Act.put, List.setIfInBounds_toArray, List.set_cons_zero, List.set_cons_succ]
    repeat (refine' wpTake_read _ (by rfl) (fun w' hS' => ?_) ?_; rotate_left; · ((try dsimp only at hS'); go_simp; (try with_reducible rfl)); (try simp only [Act.put, List.setIfInBounds_toArray, List.set_cons_zero, List.set_cons_succ]))
    refine wpTake_nil ?_
    have HW5 := Lib.hid (HWW.out.trans hw5)
    clear hw5 c0 c1 c2
    go_wp2_with fail
    refine NoPanic.normal ?_
    go_wp2_with fail
    go_ret
    exact ⟨⟨_, rfl, by omega, by omega⟩, HC5.out.mono (by omega), HW5.out⟩
set_option maxRecDepth 100000 in
set_option maxHeartbeats 2000000 in
theorem spec_element (w0 : World) (g : Nat) (n P Q G : Int) (w : World) (h : Cur w0 w g n) (hb : Below w0.heap.size w0 w) (hn : n ≤ 1500000000000000) (hgr : GrB ⟨P, Q, G⟩) :
    Calls Try.prog 60 #[.pointer (some ⟨g, 0, none⟩), .agg #[.int .i64 P, .int .i64 Q, .int .i64 G]] w fun e w' => (∃ x : Int, e = .returned (.int .i64 x) ∧ 0 ≤ x ∧ x ≤ 2000000010) ∧ Cur w0 w' g (n + 4) ∧ Within g (g + 1) w w' := by
  have HGR := Lib.hid hgr
  obtain ⟨⟨P1, P2⟩, ⟨Q1, Q2⟩, ⟨G1, G2⟩⟩ := hgr
  simp only [] at P1 P2 Q1 Q2 G1 G2
  have HC := Lib.hid h
  have hg := h.lt
  have hg0 := h.ge
  have HB0 := Lib.hid hb
  clear h hb
  obtain ⟨W, hW⟩ : ∃ W, W = w.alloc (.cells #[.int .i64 P, .int .i64 Q, .int .i64 G] 24) := ⟨_, rfl⟩
  have hbW : Below w.heap.size w W := by rw [hW]; exact (Below.refl _ _).alloc (Nat.le_refl _) _
  have HX : Hid (BoxN W w.heap.size 24 [.int .i64 P, .int .i64 Q, .int .i64 G]) := by unfold Hid; rw [hW]; exact BoxN.new w _ _
  have HSW : Hid (W.heap.size = w.heap.size + 1) := by unfold Hid; rw [hW]; simp
  have hsW : w.heap.size < W.heap.size := by have := HSW.out; omega
  replace HC := Lib.hid (HC.out.keep hbW)
  have HBW := Lib.hid hbW
  have HWW : Hid (Within g (g + 1) w W) := Within.of_below hbW
  have HB1 := Lib.hid (Below.next HB0.out hbW)
  clear hbW
  have c0 := HX.out.cell (i := 0) rfl
  have c1 := HX.out.cell (i := 1) rfl
  have c2 := HX.out.cell (i := 2) rfl
  by_cases hp : P < 3
  · go_enter Try.func60, Try.ntmps60
    go_wp2_with fail
    rw [← hW]
    clear hW
    try (go_wp2_with fail)
    go_ret
    exact ⟨⟨1, rfl, by omega, by omega⟩, HC.out.mono (by omega), HWW.out⟩
  by_cases hq : Q < 1
  · go_enter Try.func60, Try.ntmps60
    go_wp2_with fail
    rw [← hW]
    clear hW
    try (go_wp2_with fail)
    go_ret
    exact ⟨⟨1, rfl, by omega, by omega⟩, HC.out.mono (by omega), HWW.out⟩
  · go_enter Try.func60, Try.ntmps60
    go_wp2_with fail
    rw [← hW]
    clear hW
    try (go_wp2_with fail)
    have hm0 : 0 ≤ G % P := Int.emod_nonneg _ (by omega)
    have hm1 : G % P < P := Int.emod_lt_of_pos _ (by omega)
    refine wp_region_noPanic ?_
    refine wp_region_take (fun w' => Within g (g + 1) W w' ∧ w'.cell? ⟨w.heap.size, 0, none⟩ = some (.int .i64 P) ∧ w'.cell? ⟨w.heap.size, 1, none⟩ = some (.int .i64 Q) ∧ w'.cell? ⟨w.heap.size, 2, none⟩ = some (.int .i64 G)) 16 [(true, 0), (true, 1), (true, 2), (true, 3), (true, 4), (true, 6), (true, 7), (false, 5), (false, 8), (false, 9)] [10] (by kernel_rfl) (by kernel_rfl) rfl (fun _ _ _ _ _ h => h) ⟨(Within.refl _ _ _).drew, c0, c1, c2⟩ ?_
    simp only [pickL, pickN, List.getElem?_cons_zero, List.getElem?_cons_succ]
    have hwz : Within g (g + 1) W W.drew := (Within.refl _ _ _).drew
    repeat (refine' wpTake_read _ (by rfl) (fun w' hS' => ?_) ?_; rotate_left; · ((try dsimp only at hS'); go_simp; (try with_reducible rfl)); (try simp only [Act.put, List.setIfInBounds_toArray, List.set_cons_zero, List.set_cons_succ]))
    refine wpTake_do (by rfl) (fun K hK => ?_)
    go_simp
    go_at_call 94
    refine (spec_nMod G P _ ⟨by omega, by omega⟩ (by omega) (by omega)).mono ?_
    rintro e w4 ⟨rfl, rfl⟩
    refine hK.out _ _ ⟨hwz, within_at hwz c0 (.inr (by omega)), within_at hwz c1 (.inr (by omega)), within_at hwz c2 (.inr (by omega))⟩ (fun _ => ?_)
    clear hK K
    try simp only [Act.put, List.setIfInBounds_toArray, List.set_cons_zero, List.set_cons_succ]
    refine wpTake_do (by rfl) (fun K hK => ?_)
    go_simp
    go_at_call 62
    refine (spec_expo w0 g _ P Q G _ (HC.out.keep (Below.refl _ _).drew) (hwz.belowOf HB1.out (by omega)) (by omega) HGR.out).mono ?_
    rintro e w5 ⟨⟨y, rfl, hy0, hy1⟩, hc, hw⟩
    have hw5 := hwz.trans hw
    have HC5 := Lib.hid hc
    clear hc hw hwz
    refine hK.out _ _ ⟨hw5, within_at hw5 c0 (.inr (by omega)), within_at hw5 c1 (.inr (by omega)), within_at hw5 c2 (.inr (by omega))⟩ (fun _ => ?_)
    clear hK K
    try simp only [Act.put, List.setIfInBounds_toArray, List.set_cons_zero, List.set_cons_succ]
    refine wpTake_do (by rfl) (fun K hK => ?_)
    go_simp
    go_at_call 57
    refine (spec_gExpW ⟨P, Q, G⟩ (G % P) y _ ⟨by show (1 : Int) ≤ P; omega, by show P ≤ 3000000000; omega⟩ ⟨by show (1 : Int) ≤ Q; omega, by show Q ≤ 3000000000; omega⟩ ⟨by omega, by omega⟩ ⟨by omega, by omega⟩).mono ?_
    rintro e w6 ⟨⟨z, rfl, hz0, hz1⟩, hb6⟩
    replace hz1 : z < P := hz1
    have hw6 := hw5.trans (Within.of_below hb6)
    have HC6 := Lib.hid (HC5.out.keep hb6)
    clear hb6 hw5
    refine hK.out _ _ ⟨hw6, within_at hw6 c0 (.inr (by omega)), within_at hw6 c1 (.inr (by omega)), within_at hw6 c2 (.inr (by omega))⟩ (fun _ => ?_)
    clear hK K
    try simp only [Act.put, List.setIfInBounds_toArray, List.set_cons_zero, List.set_cons_succ]
    refine wpTake_nil ?_
    have HW6 := Lib.hid (HWW.out.trans hw6)
    clear hw6 c0 c1 c2
    go_wp2_with fail
    refine NoPanic.normal ?_
    go_wp2_with fail
    go_ret
    exact ⟨⟨_, rfl, by omega, by omega⟩, HC6.out.mono (by omega), HW6.out⟩
set_option maxRecDepth 100000 in
set_option maxHeartbeats 2000000 in
theorem spec_anyElement (w0 : World) (g : Nat) (n P Q G : Int) (w : World) (h : Cur w0 w g n) (hb : Below w0.heap.size w0 w) (hn : n ≤ 1000000000000000) (hgr : GrB ⟨P, Q, G⟩) :
    Calls Try.prog 44 #[.pointer (some ⟨g, 0, none⟩), .agg #[.int .i64 P, .int .i64 Q, .int .i64 G]] w fun e w' => (∃ x : Int, e = .returned (.int .i64 x) ∧ -10 ≤ x ∧ x ≤ 2000000010) ∧ Cur w0 w' g (n + 6) ∧ Within g (g + 1) w w' := by
  have HGR := Lib.hid hgr
  obtain ⟨⟨P1, P2⟩, ⟨Q1, Q2⟩, ⟨G1, G2⟩⟩ := hgr
  simp only [] at P1 P2 Q1 Q2 G1 G2
  have HC := Lib.hid h
  have hg := h.lt
  have hg0 := h.ge
  have HB0 := Lib.hid hb
  clear h hb
  obtain ⟨W, hW⟩ : ∃ W, W = w.alloc (.cells #[.int .i64 P, .int .i64 Q, .int .i64 G] 24) := ⟨_, rfl⟩
  have hbW : Below w.heap.size w W := by rw [hW]; exact (Below.refl _ _).alloc (Nat.le_refl _) _
  have HX : Hid (BoxN W w.heap.size 24 [.int .i64 P, .int .i64 Q, .int .i64 G]) := by unfold Hid; rw [hW]; exact BoxN.new w _ _
  have HSW : Hid (W.heap.size = w.heap.size + 1) := by unfold Hid; rw [hW]; simp
  have hsW : w.heap.size < W.heap.size := by have := HSW.out; omega
  replace HC := Lib.hid (HC.out.keep hbW)
  have HBW := Lib.hid hbW
  have HWW : Hid (Within g (g + 1) w W) := Within.of_below hbW
  have HB1 := Lib.hid (Below.next HB0.out hbW)
  clear hbW
  have ew1 : IntKind.i64.wrap (P - 1) = P - 1 := IntWalk.i64_in _ (by omega)
  have ew2 : IntKind.i64.wrap (Q - 1) = Q - 1 := IntWalk.i64_in _ (by omega)
  go_enter Try.func44, Try.ntmps44
  go_wp2_with fail
  rw [← hW]
  clear hW
  refine (spec_one w0 g _ 20 _ HC.out HB1.out (by omega)).mono ?_
  rintro e w1 ⟨⟨q, rfl⟩, hc, hw⟩
  replace HX := Lib.hid (HX.out.kept hw (.inr (by omega)))
  replace HWW := Lib.hid (HWW.out.trans hw)
  replace HB1 := Lib.hid (hw.belowOf HB1.out (by omega))
  replace HC := Lib.hid hc
  have hs1 := hw.size
  clear hc hw
  have c0 := HX.out.cell (i := 0) rfl
  have c1 := HX.out.cell (i := 1) rfl
  have c2 := HX.out.cell (i := 2) rfl
  cases q with
  | false =>
    go_wp2_with fail
    refine (spec_element w0 g _ P Q G _ HC.out HB1.out (by omega) HGR.out).mono ?_
    rintro e w2 ⟨⟨x, rfl, hx0, hx1⟩, hc, hw⟩
    have HW2 := Lib.hid (HWW.out.trans hw)
    have HC2 := Lib.hid hc
    clear hc hw c0 c1 c2
    go_wp2_with fail
    go_ret
    exact ⟨⟨x, rfl, by omega, by omega⟩, HC2.out.mono (by omega), HW2.out⟩
  | true =>
    go_wp2_with fail
    refine (spec_among w0 g _ _ [0, 1, P - 1, P, -1, 5] _ (HC.out.keep ((Below.refl _ _).alloc (Nat.le_refl _) _)) (HB1.out.alloc HB1.out.size _) (by omega) (Apart.of_ownI (OwnI.lit w1 (Nat.le_refl _) (lit_I64 (by simp; omega)) (by rfl) (by simp; decide) 6 rfl) (by omega)) (by simp)).mono ?_
    rintro e w3 ⟨⟨x, rfl, hx⟩, hc, hw⟩
    have hxb : -10 ≤ x ∧ x ≤ 2000000010 := by
      simp only [List.mem_cons, List.not_mem_nil, or_false] at hx
      omega
    have HW2 := Lib.hid ((HWW.out.allocR _).trans hw)
    have HC2 := Lib.hid hc
    clear hc hw hx c0 c1 c2
    go_wp2_with fail
    go_ret
    exact ⟨⟨x, rfl, by omega, by omega⟩, HC2.out.mono (by omega), HW2.out⟩
set_option maxRecDepth 100000 in
set_option maxHeartbeats 2000000 in
theorem spec_anyExpo (w0 : World) (g : Nat) (n P Q G : Int) (w : World) (h : Cur w0 w g n) (hb : Below w0.heap.size w0 w) (hn : n ≤ 1000000000000000) (hgr : GrB ⟨P, Q, G⟩) :
    Calls Try.prog 45 #[.pointer (some ⟨g, 0, none⟩), .agg #[.int .i64 P, .int .i64 Q, .int .i64 G]] w fun e w' => (∃ x : Int, e = .returned (.int .i64 x) ∧ -10 ≤ x ∧ x ≤ 2000000010) ∧ Cur w0 w' g (n + 6) ∧ Within g (g + 1) w w' := by
  have HGR := Lib.hid hgr
  obtain ⟨⟨P1, P2⟩, ⟨Q1, Q2⟩, ⟨G1, G2⟩⟩ := hgr
  simp only [] at P1 P2 Q1 Q2 G1 G2
  have HC := Lib.hid h
  have hg := h.lt
  have hg0 := h.ge
  have HB0 := Lib.hid hb
  clear h hb
  obtain ⟨W, hW⟩ : ∃ W, W = w.alloc (.cells #[.int .i64 P, .int .i64 Q, .int .i64 G] 24) := ⟨_, rfl⟩
  have hbW : Below w.heap.size w W := by rw [hW]; exact (Below.refl _ _).alloc (Nat.le_refl _) _
  have HX : Hid (BoxN W w.heap.size 24 [.int .i64 P, .int .i64 Q, .int .i64 G]) := by unfold Hid; rw [hW]; exact BoxN.new w _ _
  have HSW : Hid (W.heap.size = w.heap.size + 1) := by unfold Hid; rw [hW]; simp
  have hsW : w.heap.size < W.heap.size := by have := HSW.out; omega
  replace HC := Lib.hid (HC.out.keep hbW)
  have HBW := Lib.hid hbW
  have HWW : Hid (Within g (g + 1) w W) := Within.of_below hbW
  have HB1 := Lib.hid (Below.next HB0.out hbW)
  clear hbW
  have ew1 : IntKind.i64.wrap (P - 1) = P - 1 := IntWalk.i64_in _ (by omega)
  have ew2 : IntKind.i64.wrap (Q - 1) = Q - 1 := IntWalk.i64_in _ (by omega)
  go_enter Try.func45, Try.ntmps45
  go_wp2_with fail
  rw [← hW]
  clear hW
  refine (spec_one w0 g _ 24 _ HC.out HB1.out (by omega)).mono ?_
  rintro e w1 ⟨⟨q, rfl⟩, hc, hw⟩
  replace HX := Lib.hid (HX.out.kept hw (.inr (by omega)))
  replace HWW := Lib.hid (HWW.out.trans hw)
  replace HB1 := Lib.hid (hw.belowOf HB1.out (by omega))
  replace HC := Lib.hid hc
  have hs1 := hw.size
  clear hc hw
  have c0 := HX.out.cell (i := 0) rfl
  have c1 := HX.out.cell (i := 1) rfl
  have c2 := HX.out.cell (i := 2) rfl
  cases q with
  | false =>
    go_wp2_with fail
    refine (spec_expo w0 g _ P Q G _ HC.out HB1.out (by omega) HGR.out).mono ?_
    rintro e w2 ⟨⟨x, rfl, hx0, hx1⟩, hc, hw⟩
    have HW2 := Lib.hid (HWW.out.trans hw)
    have HC2 := Lib.hid hc
    clear hc hw c0 c1 c2
    go_wp2_with fail
    go_ret
    exact ⟨⟨x, rfl, by omega, by omega⟩, HC2.out.mono (by omega), HW2.out⟩
  | true =>
    go_wp2_with fail
    refine (spec_among w0 g _ _ [Q, -1, Q - 1] _ (HC.out.keep ((Below.refl _ _).alloc (Nat.le_refl _) _)) (HB1.out.alloc HB1.out.size _) (by omega) (Apart.of_ownI (OwnI.lit w1 (Nat.le_refl _) (lit_I64 (by simp; omega)) (by rfl) (by simp; decide) 3 rfl) (by omega)) (by simp)).mono ?_
    rintro e w3 ⟨⟨x, rfl, hx⟩, hc, hw⟩
    have hxb : -10 ≤ x ∧ x ≤ 2000000010 := by
      simp only [List.mem_cons, List.not_mem_nil, or_false] at hx
      omega
    have HW2 := Lib.hid ((HWW.out.allocR _).trans hw)
    have HC2 := Lib.hid hc
    clear hc hw hx c0 c1 c2
    go_wp2_with fail
    go_ret
    exact ⟨⟨x, rfl, by omega, by omega⟩, HC2.out.mono (by omega), HW2.out⟩
set_option maxRecDepth 100000 in
set_option maxHeartbeats 2000000 in
theorem spec_coins (w0 : World) (g : Nat) (n P Q G : Int) (m : Nat) (w : World) (h : Cur w0 w g n) (hb : Below w0.heap.size w0 w) (hn : n ≤ 1000000000000000) (hgr : GrB ⟨P, Q, G⟩) (hm : m ≤ 1000) :
    Calls Try.prog 82 #[.pointer (some ⟨g, 0, none⟩), .agg #[.int .i64 P, .int .i64 Q, .int .i64 G], .int .i64 m] w fun e w' => (∃ v' l, e = .returned v' ∧ OwnI w' w.heap.size v' l ∧ l.length = m ∧ ∀ x ∈ l, 0 ≤ x ∧ x ≤ 2000000010) ∧ Cur w0 w' g (n + 4 * 1000) ∧ Within g (g + 1) w w' := by
  have HGR := Lib.hid hgr
  clear hgr
  have HC := Lib.hid h
  have hg := h.lt
  have hg0 := h.ge
  have HB0 := Lib.hid hb
  clear h hb
  obtain ⟨W, hW⟩ : ∃ W, W = w.alloc (.cells #[.int .i64 P, .int .i64 Q, .int .i64 G] 24) := ⟨_, rfl⟩
  have hbW : Below w.heap.size w W := by rw [hW]; exact (Below.refl _ _).alloc (Nat.le_refl _) _
  have HX : Hid (BoxN W w.heap.size 24 [.int .i64 P, .int .i64 Q, .int .i64 G]) := by unfold Hid; rw [hW]; exact BoxN.new w _ _
  have HSW : Hid (W.heap.size = w.heap.size + 1) := by unfold Hid; rw [hW]; simp
  have hsW : w.heap.size < W.heap.size := by have := HSW.out; omega
  replace HC := Lib.hid (HC.out.keep hbW)
  have HBW := Lib.hid hbW
  have HWW : Hid (Within g (g + 1) w W) := Within.of_below hbW
  have HB1 := Lib.hid (Below.next HB0.out hbW)
  clear hbW
  have HO0 : Hid (∀ u B, OwnI u B (.slice none 0 0) []) := fun u B => OwnI.nil u _
  go_enter Try.func82, Try.ntmps82
  go_wp2_with fail
  rw [← hW]
  clear hW
  try (go_wp2_with fail)
  go_loopg [7, 2] m (fun gk ov kv wr => ∃ l : List Int, l.length + gk = m ∧ kv = .int .i64 (gk : Int) ∧ OwnI wr W.heap.size ov l ∧ (∀ x ∈ l, 0 ≤ x ∧ x ≤ 2000000010) ∧ Cur w0 wr g (n + 4 * ((m : Int) - gk)) ∧ Within g (g + 1) W wr)
  case atStart => exact ⟨[], by simp, rfl, HO0.out _ _, by simp, HC.out.mono (by omega), Within.refl _ _ _⟩
  case round =>
    obtain ⟨l, hl, rfl, hO, hall, hC, hWr⟩ := hrel
    have HXr := Lib.hid (HX.out.kept hWr (.inr (by omega)))
    have c0 := HXr.out.cell (i := 0) rfl
    have c1 := HXr.out.cell (i := 1) rfl
    have c2 := HXr.out.cell (i := 2) rfl
    have HC' := Lib.hid hC
    have HWr := Lib.hid hWr
    have HAL := Lib.hid hall
    have hsr := hWr.size
    obtain ⟨ao, co, rfl⟩ := hO.shape
    obtain ⟨k, hk⟩ : ∃ k, l.length = k := ⟨_, rfl⟩
    rw [hk] at hO hl ⊢
    have HK := Lib.hid hk
    have HO := Lib.hid hO
    clear hC hWr hO hk hall
    cases gk with
    | zero =>
      go_wp2_with fail
      go_ret
      exact ⟨⟨_, l, rfl, HO.out.mono (by omega), by rw [HK.out]; omega, HAL.out⟩, HC'.out.mono (by omega), HWW.out.trans HWr.out⟩
    | succ f =>
      have ef : ((f + 1 : Nat) : Int) = (f : Int) + 1 := by omega
      have ew : IntKind.i64.wrap ((f : Int) + 1 - 1) = (f : Int) := by rw [show (f : Int) + 1 - 1 = f by omega]; exact IntWalk.i64_in _ (by omega)
      rw [ef]
      have hpos : (0 : Int) < (f : Int) + 1 := by omega
      go_wp2_with fail
      refine (spec_expo w0 g _ P Q G _ HC'.out (HWr.out.belowOf HB1.out (by omega)) (by omega) HGR.out).mono ?_
      rintro e w3 ⟨⟨z, rfl, hz0, hz1⟩, hc, hw⟩
      have hs3 := hw.size
      have HO3 := Lib.hid (HO.out.within hw (by omega))
      have HC3 := Lib.hid (hc.mono (n' := n + 4 * ((m : Int) - f)) (by omega))
      have HW3 := Lib.hid (HWr.out.trans hw)
      clear hc hw c0 c1 c2 HO
      go_wp2_with (at_builtin; refine wpList_append_ints rfl _ _ rfl W.heap.size _ _ l [z] rfl (HO3.out.alloc _) rfl (Ints.lit1 _ ⟨by omega, by omega⟩) (by rw [HK.out]; simp; omega) (by simp; omega) ?_; intro v4 w4 hown4 hgr4)
      have hb4 := (HO3.out.alloc _).grown hgr4 (by simp; omega)
      have hb5 := ((Below.refl W.heap.size w3).alloc (by omega) _).trans hb4
      go_roundg f
      case measure => omega
      case rel => exact ⟨l ++ [z], by rw [List.length_append, HK.out]; simp; omega, by go_num, hown4, fun x hx => by
        rcases List.mem_append.1 hx with h1 | h1
        · exact HAL.out x h1
        · rw [List.mem_singleton.1 h1]; exact ⟨hz0, hz1⟩, HC3.out.belowB hb5 (by omega), HW3.out.belowStep hb5⟩
end Go.Proofs.Ytacpnphfopmofaa
namespace Go.Proofs.Ytacpnphfopmofaa
open Go.RowKit
set_option linter.unusedSimpArgs false
set_option linter.unusedVariables false

/-- what holds in every world that agrees with w in the blocks from B on -/
def Since (B : Nat) (w : World) (P : World → Prop) : Prop := ∀ w', w.heap.size ≤ w'.heap.size → (∀ k, B ≤ k → k < w.heap.size → w'.heap[k]? = w.heap[k]?) → P w'
theorem Since.here {B : Nat} {w : World} {P : World → Prop} (h : Since B w P) : P w := h w (Nat.le_refl _) fun _ _ _ => rfl
theorem Since.step {B : Nat} {w w' : World} {P : World → Prop} (h : Since B w P) (hs : w.heap.size ≤ w'.heap.size) (hb : ∀ k, B ≤ k → k < w.heap.size → w'.heap[k]? = w.heap[k]?) : Since B w' P :=
  fun u h1 h2 => h u (Nat.le_trans hs h1) fun k hk hlt => (h2 k hk (Nat.lt_of_lt_of_le hlt hs)).trans (hb k hk hlt)
theorem Since.within {B lo hi : Nat} {w w' : World} {P : World → Prop} (h : Since B w P) (hw : Within lo hi w w') (hd : hi ≤ B) : Since B w' P := h.step hw.size fun k hk hlt => hw.block k hlt (.inr (by omega))
theorem Since.below {B : Nat} {w w' : World} {P : World → Prop} (h : Since B w P) (hb : Below w.heap.size w w') : Since B w' P := h.step hb.size fun k _ hlt => hb.block k hlt
theorem OwnI.since {B : Nat} {w w' : World} {v : Value} {l : List Int} (h : OwnI w B v l) (hs : w.heap.size ≤ w'.heap.size) (hb : ∀ k, B ≤ k → k < w.heap.size → w'.heap[k]? = w.heap[k]?) : OwnI w' B v l := by
  refine ⟨h.1, h.2.1, ?_⟩
  rcases h.2.2 with h2 | ⟨g, cap, cur, rfl, hg, hr, r⟩
  · exact .inl h2
  · exact .inr ⟨g, cap, cur, rfl, hg, (hb g hg (Array.getElem?_eq_some_iff.1 hr).1).trans hr, r⟩
theorem Since.of_ownI {B B' : Nat} {w : World} {v : Value} {l : List Int} (h : OwnI w B v l) (hB : B' ≤ B) : Since B' w (fun u => Ints u v l) := fun u hs hb => (h.since hs fun k hk hlt => hb k (by omega) hlt).ints
end Go.Proofs.Ytacpnphfopmofaa
namespace Go.Proofs.Ytacpnphfopmofaa
open Go.RowKit
set_option linter.unusedSimpArgs false
set_option linter.unusedVariables false

structure CipherD where
  a : Int
  b : Int
deriving DecidableEq
end Go.Proofs.Ytacpnphfopmofaa
namespace Go.Proofs.Ytacpnphfopmofaa
open Go.RowKit
set_option linter.unusedSimpArgs false
set_option linter.unusedVariables false

theorem Since.mono {B B' : Nat} {w : World} {P : World → Prop} (h : Since B w P) (hB : B' ≤ B) : Since B' w P := fun w' hs hb => h w' hs fun k hk hlt => hb k (by omega) hlt
theorem Within.setNew {lo hi : Nat} {w u : World} (h : Within lo hi w u) {b : Nat} (hb : w.heap.size ≤ b) (j : Nat) (x : Value) : Within lo hi w (u.setCell ⟨b, j, none⟩ x) :=
  h.belowStep ((Below.refl w.heap.size u).setCell (p := ⟨b, j, none⟩) hb x)
theorem Cur.setNew {w0 u : World} {g : Nat} {n : Int} (h : Cur w0 u g n) {b : Nat} (hb : g < b) (j : Nat) (x : Value) : Cur w0 (u.setCell ⟨b, j, none⟩ x) g n := by
  obtain ⟨h1, v, p, s, hB, h2⟩ := h
  exact ⟨h1, v, p, s, hB.other (by omega) j x, h2⟩
end Go.Proofs.Ytacpnphfopmofaa
namespace Go.Proofs.Ytacpnphfopmofaa
open Go.RowKit
set_option linter.unusedSimpArgs false
set_option linter.unusedVariables false

/-- the element that a digest gives -/
def derX (gr : GroupD) (s : ByteArray) (k : Int) (c : Nat) : Int := powM (1 + hashOf (lab s ++ [gr.p, gr.q, gr.g, k, (c : Int)]) % (gr.p - 1)) ((gr.p - 1) / gr.q) gr.p
/-- the first of the first n that is not one, or nought -/
def derTo (gr : GroupD) (s : ByteArray) (k : Int) : Nat → Int
  | 0 => 0
  | n + 1 => if derTo gr s k n = 0 then (if derX gr s k n = 1 then 0 else derX gr s k n) else derTo gr s k n
/-- the derived element, or nought -/
def hD (gr : GroupD) (s : ByteArray) (k : Int) : Int := derTo gr s k 1000
end Go.Proofs.Ytacpnphfopmofaa
namespace Go.Proofs.Ytacpnphfopmofaa
open Go.RowKit
set_option linter.unusedSimpArgs false
set_option linter.unusedVariables false

/-- a contest is valid -/
def ctOk (k o l m p : Int) : Bool := decide (0 ≤ l ∧ l ≤ m ∧ ((k = 1 ∨ k = 3) ∧ 1 ≤ o ∧ o ≤ 8 ∧ m ≤ o ∧ p = 0 ∨ k = 2 ∧ 1 ≤ o ∧ o ≤ 8 ∧ 1 ≤ p ∧ p ≤ 5 ∧ m ≤ o * p ∨ k = 4 ∧ o = 0 ∧ m ≤ 5 ∧ p = 0))
theorem ctOk_bd {k o l m p : Int} (h : ctOk k o l m p = true) : 0 ≤ o ∧ o ≤ 8 ∧ 0 ≤ p ∧ p ≤ 5 ∧ 0 ≤ l ∧ l ≤ m ∧ m ≤ 40 := by
  unfold ctOk at h
  rw [decide_eq_true_iff] at h
  obtain ⟨h1, h2, h | ⟨h3, h4, h5, h6, h7, h8⟩ | h⟩ := h
  · omega
  · have := mul_bd (a := o) (b := p) (by omega) h5 (by omega) h7
    omega
  · omega
end Go.Proofs.Ytacpnphfopmofaa
namespace Go.Proofs.Ytacpnphfopmofaa
open Go.RowKit
set_option linter.unusedSimpArgs false
set_option linter.unusedVariables false

/-- the list of f 0, f 1, .. of length n -/
def tab (n : Nat) (f : Nat → Int) : List Int := (List.range n).map f
theorem tab_length (n : Nat) (f : Nat → Int) : (tab n f).length = n := by simp [tab]
theorem tab_mem {n : Nat} {f : Nat → Int} {x : Int} (h : x ∈ tab n f) : ∃ i, i < n ∧ f i = x := by
  simp only [tab, List.mem_map, List.mem_range] at h; exact h
/-- the number of digits, the last digit first -/
def codeL (b : Int) (l : List Int) : Int := l.foldr (fun d c => c * b + d) 0
/-- digits -/
def Digs (l : List Int) : Prop := l.length ≤ 8 ∧ ∀ x ∈ l, 0 ≤ x ∧ x ≤ 26
theorem codeL_bd0 {b : Int} (h1 : 0 ≤ b) (h2 : b ≤ 27) (l : List Int) : (∀ x ∈ l, 0 ≤ x ∧ x ≤ 26) → 0 ≤ codeL b l ∧ codeL b l < 27 ^ l.length := by
  induction l with
  | nil => intro _; exact ⟨Int.le_refl _, by show (0 : Int) < 27 ^ 0; decide⟩
  | cons a l ih =>
    intro h
    obtain ⟨i1, i2⟩ := ih (fun x hx => h x (List.mem_cons_of_mem _ hx))
    obtain ⟨a1, a2⟩ := h a (List.mem_cons_self ..)
    obtain ⟨m1, m2⟩ := mul_bd (a := codeL b l) (b := b) (A := 27 ^ l.length - 1) i1 (by omega) h1 h2
    have e : codeL b (a :: l) = codeL b l * b + a := rfl
    rw [e, List.length_cons, Int.pow_succ]
    omega
theorem codeL_bd {b : Int} (h1 : 0 ≤ b) (h2 : b ≤ 27) {l : List Int} (h : Digs l) : 0 ≤ codeL b l ∧ codeL b l ≤ 282429536480 := by
  obtain ⟨a, b⟩ := codeL_bd0 h1 h2 l h.2
  refine ⟨a, ?_⟩
  have h3 : l.length < 9 := by have := h.1; omega
  have e : (27 : Int) ^ l.length ≤ 282429536481 := by
    generalize l.length = n at h3
    obtain ⟨j, rfl⟩ : ∃ j : Fin 9, n = j := ⟨⟨n, h3⟩, rfl⟩
    revert j; decide
  omega
theorem Digs.drop {l : List Int} (h : Digs l) (k : Nat) : Digs (l.drop k) := ⟨by have := h.1; simp; omega, fun x hx => h.2 x (List.mem_of_mem_drop hx)⟩
theorem Digs.at_ {l : List Int} (h : Digs l) {k : Nat} (hk : k < l.length) : 0 ≤ nth l k ∧ nth l k ≤ 26 := by rw [nth_eq hk]; exact h.2 _ (List.getElem_mem hk)
/-- the base of a contest's codes -/
def ctBase (k o p : Int) : Int := if k = 2 then p + 1 else if k = 3 then o + 1 else if k = 4 then 27 else 2
/-- n digits that hold r, each of at most p, the last ones first -/
def scoreL (p : Int) : Nat → Int → List Int
  | 0, _ => []
  | n + 1, r => scoreL p n (r - min r p) ++ [min r p]
theorem scoreL_length (p : Int) (n : Nat) : ∀ r, (scoreL p n r).length = n := by
  induction n with
  | zero => intro r; rfl
  | succ n ih => intro r; simp [scoreL, ih]
theorem scoreL_digs {p : Int} (hp0 : 0 ≤ p) (hp : p ≤ 26) (n : Nat) : ∀ r, 0 ≤ r → ∀ x ∈ scoreL p n r, 0 ≤ x ∧ x ≤ 26 := by
  induction n with
  | zero => intro r _ x hx; cases hx
  | succ n ih =>
    intro r hr x hx
    rw [scoreL, List.mem_append] at hx
    rcases hx with hx | hx
    · exact ih _ (by omega) x hx
    · simp at hx; omega
/-- the digits of the greatest code -/
def grD (k : Int) (o m : Nat) (p : Int) : List Int :=
  if k = 1 then tab o (fun i => if (o : Int) - m ≤ i then 1 else 0)
  else if k = 2 then scoreL p o m
  else if k = 3 then tab m (fun i => (o : Int) - m + 1 + i)
  else tab m (fun _ => 26)
/-- the greatest code -/
def ctGr (k o m p : Int) : Int := codeL (ctBase k o p) (grD k o.toNat m.toNat p)
/-- what bounds a valid contest's numbers -/
structure CtN (k : Int) (o m : Nat) (p : Int) : Prop where
  k1 : k = 1 ∨ k = 2 ∨ k = 3 ∨ k = 4
  o8 : o ≤ 8
  p0 : 0 ≤ p
  p5 : p ≤ 5
  m40 : m ≤ 40
  mo : k = 1 ∨ k = 3 → m ≤ o
  m4 : k = 4 → m ≤ 5
theorem CtN.of {k o l m p : Int} (h : ctOk k o l m p = true) : ∃ on mn : Nat, o = on ∧ m = mn ∧ CtN k on mn p := by
  have hb := ctOk_bd h
  unfold ctOk at h; rw [decide_eq_true_iff] at h
  refine ⟨o.toNat, m.toNat, by omega, by omega, ⟨by omega, by omega, by omega, by omega, by omega, by omega, by omega⟩⟩
theorem CtN.digs {k p : Int} {o m : Nat} (h : CtN k o m p) : Digs (grD k o m p) := by
  obtain ⟨hk, ho, hp0, hp5, hm, hmo, hm4⟩ := h
  unfold grD
  rcases hk with rfl | rfl | rfl | rfl
  · have := hmo (.inl rfl)
    refine ⟨by simp [tab_length]; omega, fun x hx => ?_⟩
    simp only [if_true] at hx
    obtain ⟨i, hi, rfl⟩ := tab_mem hx
    split <;> omega
  · refine ⟨by simp [scoreL_length]; omega, fun x hx => ?_⟩
    exact scoreL_digs hp0 (by omega) o m (by omega) x (by simpa using hx)
  · have := hmo (.inr rfl)
    refine ⟨by simp [tab_length]; omega, fun x hx => ?_⟩
    obtain ⟨i, hi, rfl⟩ := tab_mem (show x ∈ tab m _ by simpa using hx)
    omega
  · have := hm4 rfl
    refine ⟨by simp [tab_length]; omega, fun x hx => ?_⟩
    obtain ⟨i, hi, rfl⟩ := tab_mem (show x ∈ tab m _ by simpa using hx)
    omega
theorem CtN.base {k p : Int} {o m : Nat} (h : CtN k o m p) : 0 ≤ ctBase k o p ∧ ctBase k o p ≤ 27 := by
  have := h.o8; have := h.p0; have := h.p5
  unfold ctBase; split
  · omega
  · split
    · omega
    · split <;> omega
theorem CtN.gr {k p : Int} {o m : Nat} (h : CtN k o m p) : 0 ≤ ctGr k o m p ∧ ctGr k o m p ≤ 282429536480 := by
  have := codeL_bd h.base.1 h.base.2 h.digs
  unfold ctGr; simpa using this
end Go.Proofs.Ytacpnphfopmofaa
namespace Go.Proofs.Ytacpnphfopmofaa
open Go.RowKit
set_option linter.unusedSimpArgs false
set_option linter.unusedVariables false

theorem BoxN.belowB {w w' : World} {b B : Nat} {t : TypeId} {cs : List Value} (h : BoxN w b t cs) (hb : Below B w w') (hB : b < B) : BoxN w' b t cs := (hb.block b hB).trans h
end Go.Proofs.Ytacpnphfopmofaa
