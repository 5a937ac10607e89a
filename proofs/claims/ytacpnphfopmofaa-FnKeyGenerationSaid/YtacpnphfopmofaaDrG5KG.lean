/- Draws of exponents, elements. -/
import Derived.Test.YtacpnphfopmofaaDrG3KG
namespace Go.Proofs.Ytacpnphfopmofaa
open Go.RowKit
set_option linter.unusedSimpArgs false
set_option linter.unusedVariables false

set_option maxRecDepth 100000 in
set_option maxHeartbeats 2000000 in
theorem spec_expo (w0 : World) (g : Nat) (n P Q G : Int) (w : World) (h : Cur w0 w g n) (hb : Below w0.heap.size w0 w) (hn : n ≤ 2000000000000000) (hgr : GrB ⟨P, Q, G⟩) :
    Calls Try.prog 62 #[.pointer (some ⟨g, 0, none⟩), .agg #[.int .i64 P, .int .i64 Q, .int .i64 G]] w fun e w' => (∃ x : Int, e = .returned (.int .i64 x) ∧ 0 ≤ x ∧ x ≤ 2000000010) ∧ Cur w0 w' g (n + 4) ∧ Within g (g + 1) w w' := by
  obtain ⟨⟨P1, P2⟩, ⟨Q1, Q2⟩, ⟨G1, G2⟩⟩ := hgr
  simp only [] at P1 P2 Q1 Q2 G1 G2
  have HC := Lib.hid h
  have hg := h.lt
  have hg0 := h.ge
  have HB0 := Lib.hid hb
  clear h hb
  obtain ⟨W, hW⟩ : ∃ W, W = w.alloc (.cells #[.int .i64 P, .int .i64 Q, .int .i64 G] 24) := ⟨_, rfl⟩
  have hbW : Below w.heap.size w W := by rw [hW]; exact (Below.refl _ _).alloc (Nat.le_refl _) _
  have HX : Hid (BoxN W w.heap.size 24 [.int .i64 P, .int .i64 Q, .int .i64 G]) := by unfold Hid; rw [hW]; exact BoxN.new w _ _
  have HSW : Hid (W.heap.size = w.heap.size + 1) := by unfold Hid; rw [hW]; simp
  have hsW : w.heap.size < W.heap.size := by have := HSW.out; omega
  replace HC := Lib.hid (HC.out.keep hbW)
  have HBW := Lib.hid hbW
  have HWW : Hid (Within g (g + 1) w W) := Within.of_below hbW
  have HB1 := Lib.hid (Below.next HB0.out hbW)
  clear hbW
  have c0 := HX.out.cell (i := 0) rfl
  have c1 := HX.out.cell (i := 1) rfl
  have c2 := HX.out.cell (i := 2) rfl
  by_cases hq : Q < 2
  · go_enter Try.func62, Try.ntmps62
    go_wp2_with fail
    rw [← hW]
    clear hW
    try (go_wp2_with fail)
    go_ret
    exact ⟨⟨0, rfl, by omega, by omega⟩, HC.out.mono (by omega), HWW.out⟩
  · go_enter Try.func62, Try.ntmps62
    go_wp2_with fail
    rw [← hW]
    clear hW
    try (go_wp2_with fail)
    have hqz : ¬ Q = 0 := by omega
    have hqz2 : (Q == 0) = false := by rw [beq_eq_false_iff_ne]; omega
    refine wp_region_noPanic ?_
    refine wp_region_take (fun w' => Within g (g + 1) W w' ∧ w'.cell? ⟨w.heap.size, 1, none⟩ = some (.int .i64 Q)) 16 [(true, 0), (true, 3), (true, 6), (true, 7), (false, 1), (true, 2), (false, 4), (true, 5), (true, 8)] [9] (by kernel_rfl) (by kernel_rfl) rfl (fun _ _ _ _ _ h => h) ⟨(Within.refl _ _ _).drew, c1⟩ ?_
    simp only [pickL, pickN, List.getElem?_cons_zero, List.getElem?_cons_succ]
    have hwz : Within g (g + 1) W W.drew := (Within.refl _ _ _).drew
    repeat (refine' wpTake_read _ (by rfl) (fun w' hS' => ?_) ?_; rotate_left; · ((try dsimp only at hS'); go_simp; (try with_reducible rfl)); (try simp only [Act.put, List.setIfInBounds_toArray, List.set_cons_zero, List.set_cons_succ]))
    refine wpTake_do (by rfl) (fun K hK => ?_)
    go_simp
    go_at_call 72
    refine (spec_pick w0 g _ 60000 _ (HC.out.keep (Below.refl _ _).drew) (hwz.belowOf HB1.out (by omega)) (by omega)).mono ?_
    rintro e w4 ⟨⟨x, rfl, hx0, _, hx1, _⟩, hc, hw⟩
    replace hx1 := hx1 (by omega)
    have hw4 := hwz.trans hw
    have HC4 := Lib.hid hc
    clear hc hw hwz
    have em : IntKind.i64.wrap (x * 60000) = x * 60000 := IntWalk.i64_in _ (by omega)
    refine hK.out _ _ ⟨hw4, within_at hw4 c1 (.inr (by omega))⟩ (fun _ => ?_)
    clear hK K
    try simp only [Act.put, List.setIfInBounds_toArray, List.set_cons_zero, List.set_cons_succ]
    repeat (refine' wpTake_read _ (by rfl) (fun w' hS' => ?_) ?_; rotate_left; · ((try dsimp only at hS'); go_simp; (try with_reducible rfl)); (try simp only [Act.put, List.setIfInBounds_toArray, List.set_cons_zero, List.set_cons_succ]))
    refine wpTake_do (by rfl) (fun K hK => ?_)
    go_simp
    go_at_call 72
    refine (spec_pick w0 g _ 60000 _ HC4.out (hw4.belowOf HB1.out (by omega)) (by omega)).mono ?_
    rintro e w5 ⟨⟨y, rfl, hy0, _, hy1, _⟩, hc, hw⟩
    replace hy1 := hy1 (by omega)
    have hw5 := hw4.trans hw
    have HC5 := Lib.hid hc
    clear hc hw hw4
    have r0 : 0 ≤ (x * 60000 + y) % Q := Int.emod_nonneg _ hqz
    have r1 : (x * 60000 + y) % Q < Q := Int.emod_lt_of_pos _ (by omega)
    have et : Int.tmod (x * 60000 + y) Q = (x * 60000 + y) % Q := Int.tmod_eq_emod_of_nonneg (by omega)
    have ea : IntKind.i64.wrap (x * 60000 + y) = x * 60000 + y := IntWalk.i64_in _ (by omega)
    have er : IntKind.i64.wrap ((x * 60000 + y) % Q) = (x * 60000 + y) % Q := IntWalk.i64_in _ (by omega)
    refine hK.out _ _ ⟨hw5, within_at hw5 c1 (.inr (by omega))⟩ (fun _ => ?_)
    clear hK K
    try simp only [Act.put, List.setIfInBounds_toArray, List.set_cons_zero, List.set_cons_succ]
    repeat (refine' wpTake_read _ (by rfl) (fun w' hS' => ?_) ?_; rotate_left; · ((try dsimp only at hS'); go_simp; (try with_reducible rfl)); (try simp only [Act.put, List.setIfInBounds_toArray, List.set_cons_zero, List.set_cons_succ]))
    refine wpTake_nil ?_
    have HW5 := Lib.hid (HWW.out.trans hw5)
    clear hw5 c0 c1 c2
    go_wp2_with fail
    refine NoPanic.normal ?_
    go_wp2_with fail
    go_ret
    exact ⟨⟨_, rfl, by omega, by omega⟩, HC5.out.mono (by omega), HW5.out⟩
set_option maxRecDepth 100000 in
set_option maxHeartbeats 2000000 in
theorem spec_element (w0 : World) (g : Nat) (n P Q G : Int) (w : World) (h : Cur w0 w g n) (hb : Below w0.heap.size w0 w) (hn : n ≤ 1500000000000000) (hgr : GrB ⟨P, Q, G⟩) :
    Calls Try.prog 60 #[.pointer (some ⟨g, 0, none⟩), .agg #[.int .i64 P, .int .i64 Q, .int .i64 G]] w fun e w' => (∃ x : Int, e = .returned (.int .i64 x) ∧ 0 ≤ x ∧ x ≤ 2000000010) ∧ Cur w0 w' g (n + 4) ∧ Within g (g + 1) w w' := by
  have HGR := Lib.hid hgr
  obtain ⟨⟨P1, P2⟩, ⟨Q1, Q2⟩, ⟨G1, G2⟩⟩ := hgr
  simp only [] at P1 P2 Q1 Q2 G1 G2
  have HC := Lib.hid h
  have hg := h.lt
  have hg0 := h.ge
  have HB0 := Lib.hid hb
  clear h hb
  obtain ⟨W, hW⟩ : ∃ W, W = w.alloc (.cells #[.int .i64 P, .int .i64 Q, .int .i64 G] 24) := ⟨_, rfl⟩
  have hbW : Below w.heap.size w W := by rw [hW]; exact (Below.refl _ _).alloc (Nat.le_refl _) _
  have HX : Hid (BoxN W w.heap.size 24 [.int .i64 P, .int .i64 Q, .int .i64 G]) := by unfold Hid; rw [hW]; exact BoxN.new w _ _
  have HSW : Hid (W.heap.size = w.heap.size + 1) := by unfold Hid; rw [hW]; simp
  have hsW : w.heap.size < W.heap.size := by have := HSW.out; omega
  replace HC := Lib.hid (HC.out.keep hbW)
  have HBW := Lib.hid hbW
  have HWW : Hid (Within g (g + 1) w W) := Within.of_below hbW
  have HB1 := Lib.hid (Below.next HB0.out hbW)
  clear hbW
  have c0 := HX.out.cell (i := 0) rfl
  have c1 := HX.out.cell (i := 1) rfl
  have c2 := HX.out.cell (i := 2) rfl
  by_cases hp : P < 3
  · go_enter Try.func60, Try.ntmps60
    go_wp2_with fail
    rw [← hW]
    clear hW
    try (go_wp2_with fail)
    go_ret
    exact ⟨⟨1, rfl, by omega, by omega⟩, HC.out.mono (by omega), HWW.out⟩
  by_cases hq : Q < 1
  · go_enter Try.func60, Try.ntmps60
    go_wp2_with fail
    rw [← hW]
    clear hW
    try (go_wp2_with fail)
    go_ret
    exact ⟨⟨1, rfl, by omega, by omega⟩, HC.out.mono (by omega), HWW.out⟩
  · go_enter Try.func60, Try.ntmps60
    go_wp2_with fail
    rw [← hW]
    clear hW
    try (go_wp2_with fail)
    have hm0 : 0 ≤ G % P := Int.emod_nonneg _ (by omega)
    have hm1 : G % P < P := Int.emod_lt_of_pos _ (by omega)
    refine wp_region_noPanic ?_
    refine wp_region_take (fun w' => Within g (g + 1) W w' ∧ w'.cell? ⟨w.heap.size, 0, none⟩ = some (.int .i64 P) ∧ w'.cell? ⟨w.heap.size, 1, none⟩ = some (.int .i64 Q) ∧ w'.cell? ⟨w.heap.size, 2, none⟩ = some (.int .i64 G)) 16 [(true, 0), (true, 1), (true, 2), (true, 3), (true, 4), (true, 6), (true, 7), (false, 5), (false, 8), (false, 9)] [10] (by kernel_rfl) (by kernel_rfl) rfl (fun _ _ _ _ _ h => h) ⟨(Within.refl _ _ _).drew, c0, c1, c2⟩ ?_
    simp only [pickL, pickN, List.getElem?_cons_zero, List.getElem?_cons_succ]
    have hwz : Within g (g + 1) W W.drew := (Within.refl _ _ _).drew
    repeat (refine' wpTake_read _ (by rfl) (fun w' hS' => ?_) ?_; rotate_left; · ((try dsimp only at hS'); go_simp; (try with_reducible rfl)); (try simp only [Act.put, List.setIfInBounds_toArray, List.set_cons_zero, List.set_cons_succ]))
    refine wpTake_do (by rfl) (fun K hK => ?_)
    go_simp
    go_at_call 94
    refine (spec_nMod G P _ ⟨by omega, by omega⟩ (by omega) (by omega)).mono ?_
    rintro e w4 ⟨rfl, rfl⟩
    refine hK.out _ _ ⟨hwz, within_at hwz c0 (.inr (by omega)), within_at hwz c1 (.inr (by omega)), within_at hwz c2 (.inr (by omega))⟩ (fun _ => ?_)
    clear hK K
    try simp only [Act.put, List.setIfInBounds_toArray, List.set_cons_zero, List.set_cons_succ]
    refine wpTake_do (by rfl) (fun K hK => ?_)
    go_simp
    go_at_call 62
    refine (spec_expo w0 g _ P Q G _ (HC.out.keep (Below.refl _ _).drew) (hwz.belowOf HB1.out (by omega)) (by omega) HGR.out).mono ?_
    rintro e w5 ⟨⟨y, rfl, hy0, hy1⟩, hc, hw⟩
    have hw5 := hwz.trans hw
    have HC5 := Lib.hid hc
    clear hc hw hwz
    refine hK.out _ _ ⟨hw5, within_at hw5 c0 (.inr (by omega)), within_at hw5 c1 (.inr (by omega)), within_at hw5 c2 (.inr (by omega))⟩ (fun _ => ?_)
    clear hK K
    try simp only [Act.put, List.setIfInBounds_toArray, List.set_cons_zero, List.set_cons_succ]
    refine wpTake_do (by rfl) (fun K hK => ?_)
    go_simp
    go_at_call 57
    refine (spec_gExpW ⟨P, Q, G⟩ (G % P) y _ ⟨by show (1 : Int) ≤ P; omega, by show P ≤ 3000000000; omega⟩ ⟨by show (1 : Int) ≤ Q; omega, by show Q ≤ 3000000000; omega⟩ ⟨by omega, by omega⟩ ⟨by omega, by omega⟩).mono ?_
    rintro e w6 ⟨⟨z, rfl, hz0, hz1⟩, hb6⟩
    replace hz1 : z < P := hz1
    have hw6 := hw5.trans (Within.of_below hb6)
    have HC6 := Lib.hid (HC5.out.keep hb6)
    clear hb6 hw5
    refine hK.out _ _ ⟨hw6, within_at hw6 c0 (.inr (by omega)), within_at hw6 c1 (.inr (by omega)), within_at hw6 c2 (.inr (by omega))⟩ (fun _ => ?_)
    clear hK K
    try simp only [Act.put, List.setIfInBounds_toArray, List.set_cons_zero, List.set_cons_succ]
    refine wpTake_nil ?_
    have HW6 := Lib.hid (HWW.out.trans hw6)
    clear hw6 c0 c1 c2
    go_wp2_with fail
    refine NoPanic.normal ?_
    go_wp2_with fail
    go_ret
    exact ⟨⟨_, rfl, by omega, by omega⟩, HC6.out.mono (by omega), HW6.out⟩
set_option maxRecDepth 100000 in
set_option maxHeartbeats 2000000 in
theorem spec_anyExpo (w0 : World) (g : Nat) (n P Q G : Int) (w : World) (h : Cur w0 w g n) (hb : Below w0.heap.size w0 w) (hn : n ≤ 1000000000000000) (hgr : GrB ⟨P, Q, G⟩) :
    Calls Try.prog 45 #[.pointer (some ⟨g, 0, none⟩), .agg #[.int .i64 P, .int .i64 Q, .int .i64 G]] w fun e w' => (∃ x : Int, e = .returned (.int .i64 x) ∧ -10 ≤ x ∧ x ≤ 2000000010) ∧ Cur w0 w' g (n + 6) ∧ Within g (g + 1) w w' := by
  have HGR := Lib.hid hgr
  obtain ⟨⟨P1, P2⟩, ⟨Q1, Q2⟩, ⟨G1, G2⟩⟩ := hgr
  simp only [] at P1 P2 Q1 Q2 G1 G2
  have HC := Lib.hid h
  have hg := h.lt
  have hg0 := h.ge
  have HB0 := Lib.hid hb
  clear h hb
  obtain ⟨W, hW⟩ : ∃ W, W = w.alloc (.cells #[.int .i64 P, .int .i64 Q, .int .i64 G] 24) := ⟨_, rfl⟩
  have hbW : Below w.heap.size w W := by rw [hW]; exact (Below.refl _ _).alloc (Nat.le_refl _) _
  have HX : Hid (BoxN W w.heap.size 24 [.int .i64 P, .int .i64 Q, .int .i64 G]) := by unfold Hid; rw [hW]; exact BoxN.new w _ _
  have HSW : Hid (W.heap.size = w.heap.size + 1) := by unfold Hid; rw [hW]; simp
  have hsW : w.heap.size < W.heap.size := by have := HSW.out; omega
  replace HC := Lib.hid (HC.out.keep hbW)
  have HBW := Lib.hid hbW
  have HWW : Hid (Within g (g + 1) w W) := Within.of_below hbW
  have HB1 := Lib.hid (Below.next HB0.out hbW)
  clear hbW
  have ew1 : IntKind.i64.wrap (P - 1) = P - 1 := IntWalk.i64_in _ (by omega)
  have ew2 : IntKind.i64.wrap (Q - 1) = Q - 1 := IntWalk.i64_in _ (by omega)
  go_enter Try.func45, Try.ntmps45
  go_wp2_with fail
  rw [← hW]
  clear hW
  refine (spec_one w0 g _ 24 _ HC.out HB1.out (by omega)).mono ?_
  rintro e w1 ⟨⟨q, rfl⟩, hc, hw⟩
  replace HX := Lib.hid (HX.out.kept hw (.inr (by omega)))
  replace HWW := Lib.hid (HWW.out.trans hw)
  replace HB1 := Lib.hid (hw.belowOf HB1.out (by omega))
  replace HC := Lib.hid hc
  have hs1 := hw.size
  clear hc hw
  have c0 := HX.out.cell (i := 0) rfl
  have c1 := HX.out.cell (i := 1) rfl
  have c2 := HX.out.cell (i := 2) rfl
  cases q with
  | false =>
    go_wp2_with fail
    refine (spec_expo w0 g _ P Q G _ HC.out HB1.out (by omega) HGR.out).mono ?_
    rintro e w2 ⟨⟨x, rfl, hx0, hx1⟩, hc, hw⟩
    have HW2 := Lib.hid (HWW.out.trans hw)
    have HC2 := Lib.hid hc
    clear hc hw c0 c1 c2
    go_wp2_with fail
    go_ret
    exact ⟨⟨x, rfl, by omega, by omega⟩, HC2.out.mono (by omega), HW2.out⟩
  | true =>
    go_wp2_with fail
    refine (spec_among w0 g _ _ [Q, -1, Q - 1] _ (HC.out.keep ((Below.refl _ _).alloc (Nat.le_refl _) _)) (HB1.out.alloc HB1.out.size _) (by omega) (Apart.of_ownI (OwnI.lit w1 (Nat.le_refl _) (lit_I64 (by simp; omega)) (by rfl) (by simp; decide) 3 rfl) (by omega)) (by simp)).mono ?_
    rintro e w3 ⟨⟨x, rfl, hx⟩, hc, hw⟩
    have hxb : -10 ≤ x ∧ x ≤ 2000000010 := by
      simp only [List.mem_cons, List.not_mem_nil, or_false] at hx
      omega
    have HW2 := Lib.hid ((HWW.out.allocR _).trans hw)
    have HC2 := Lib.hid hc
    clear hc hw hx c0 c1 c2
    go_wp2_with fail
    go_ret
    exact ⟨⟨x, rfl, by omega, by omega⟩, HC2.out.mono (by omega), HW2.out⟩
set_option maxRecDepth 100000 in
set_option maxHeartbeats 2000000 in
theorem spec_coins (w0 : World) (g : Nat) (n P Q G : Int) (m : Nat) (w : World) (h : Cur w0 w g n) (hb : Below w0.heap.size w0 w) (hn : n ≤ 1000000000000000) (hgr : GrB ⟨P, Q, G⟩) (hm : m ≤ 1000) :
    Calls Try.prog 82 #[.pointer (some ⟨g, 0, none⟩), .agg #[.int .i64 P, .int .i64 Q, .int .i64 G], .int .i64 m] w fun e w' => (∃ v' l, e = .returned v' ∧ OwnI w' w.heap.size v' l ∧ l.length = m ∧ ∀ x ∈ l, 0 ≤ x ∧ x ≤ 2000000010) ∧ Cur w0 w' g (n + 4 * 1000) ∧ Within g (g + 1) w w' := by
  have HGR := Lib.hid hgr
  clear hgr
  have HC := Lib.hid h
  have hg := h.lt
  have hg0 := h.ge
  have HB0 := Lib.hid hb
  clear h hb
  obtain ⟨W, hW⟩ : ∃ W, W = w.alloc (.cells #[.int .i64 P, .int .i64 Q, .int .i64 G] 24) := ⟨_, rfl⟩
  have hbW : Below w.heap.size w W := by rw [hW]; exact (Below.refl _ _).alloc (Nat.le_refl _) _
  have HX : Hid (BoxN W w.heap.size 24 [.int .i64 P, .int .i64 Q, .int .i64 G]) := by unfold Hid; rw [hW]; exact BoxN.new w _ _
  have HSW : Hid (W.heap.size = w.heap.size + 1) := by unfold Hid; rw [hW]; simp
  have hsW : w.heap.size < W.heap.size := by have := HSW.out; omega
  replace HC := Lib.hid (HC.out.keep hbW)
  have HBW := Lib.hid hbW
  have HWW : Hid (Within g (g + 1) w W) := Within.of_below hbW
  have HB1 := Lib.hid (Below.next HB0.out hbW)
  clear hbW
  have HO0 : Hid (∀ u B, OwnI u B (.slice none 0 0) []) := fun u B => OwnI.nil u _
  go_enter Try.func82, Try.ntmps82
  go_wp2_with fail
  rw [← hW]
  clear hW
  try (go_wp2_with fail)
  go_loopg [7, 2] m (fun gk ov kv wr => ∃ l : List Int, l.length + gk = m ∧ kv = .int .i64 (gk : Int) ∧ OwnI wr W.heap.size ov l ∧ (∀ x ∈ l, 0 ≤ x ∧ x ≤ 2000000010) ∧ Cur w0 wr g (n + 4 * ((m : Int) - gk)) ∧ Within g (g + 1) W wr)
  case atStart => exact ⟨[], by simp, rfl, HO0.out _ _, by simp, HC.out.mono (by omega), Within.refl _ _ _⟩
  case round =>
    obtain ⟨l, hl, rfl, hO, hall, hC, hWr⟩ := hrel
    have HXr := Lib.hid (HX.out.kept hWr (.inr (by omega)))
    have c0 := HXr.out.cell (i := 0) rfl
    have c1 := HXr.out.cell (i := 1) rfl
    have c2 := HXr.out.cell (i := 2) rfl
    have HC' := Lib.hid hC
    have HWr := Lib.hid hWr
    have HAL := Lib.hid hall
    have hsr := hWr.size
    obtain ⟨ao, co, rfl⟩ := hO.shape
    obtain ⟨k, hk⟩ : ∃ k, l.length = k := ⟨_, rfl⟩
    rw [hk] at hO hl ⊢
    have HK := Lib.hid hk
    have HO := Lib.hid hO
    clear hC hWr hO hk hall
    cases gk with
    | zero =>
      go_wp2_with fail
      go_ret
      exact ⟨⟨_, l, rfl, HO.out.mono (by omega), by rw [HK.out]; omega, HAL.out⟩, HC'.out.mono (by omega), HWW.out.trans HWr.out⟩
    | succ f =>
      have ef : ((f + 1 : Nat) : Int) = (f : Int) + 1 := by omega
      have ew : IntKind.i64.wrap ((f : Int) + 1 - 1) = (f : Int) := by rw [show (f : Int) + 1 - 1 = f by omega]; exact IntWalk.i64_in _ (by omega)
      rw [ef]
      have hpos : (0 : Int) < (f : Int) + 1 := by omega
      go_wp2_with fail
      refine (spec_expo w0 g _ P Q G _ HC'.out (HWr.out.belowOf HB1.out (by omega)) (by omega) HGR.out).mono ?_
      rintro e w3 ⟨⟨z, rfl, hz0, hz1⟩, hc, hw⟩
      have hs3 := hw.size
      have HO3 := Lib.hid (HO.out.within hw (by omega))
      have HC3 := Lib.hid (hc.mono (n' := n + 4 * ((m : Int) - f)) (by omega))
      have HW3 := Lib.hid (HWr.out.trans hw)
      clear hc hw c0 c1 c2 HO
      go_wp2_with (at_builtin; refine wpList_append_ints rfl _ _ rfl W.heap.size _ _ l [z] rfl (HO3.out.alloc _) rfl (Ints.lit1 _ ⟨by omega, by omega⟩) (by rw [HK.out]; simp; omega) (by simp; omega) ?_; intro v4 w4 hown4 hgr4)
      have hb4 := (HO3.out.alloc _).grown hgr4 (by simp; omega)
      have hb5 := ((Below.refl W.heap.size w3).alloc (by omega) _).trans hb4
      go_roundg f
      case measure => omega
      case rel => exact ⟨l ++ [z], by rw [List.length_append, HK.out]; simp; omega, by go_num, hown4, fun x hx => by
        rcases List.mem_append.1 hx with h1 | h1
        · exact HAL.out x h1
        · rw [List.mem_singleton.1 h1]; exact ⟨hz0, hz1⟩, HC3.out.belowB hb5 (by omega), HW3.out.belowStep hb5⟩
end Go.Proofs.Ytacpnphfopmofaa
namespace Go.Proofs.Ytacpnphfopmofaa
open Go.RowKit
set_option linter.unusedSimpArgs false
set_option linter.unusedVariables false

/-- what holds in every world that agrees with w in the blocks from B on -/
def Since (B : Nat) (w : World) (P : World → Prop) : Prop := ∀ w', w.heap.size ≤ w'.heap.size → (∀ k, B ≤ k → k < w.heap.size → w'.heap[k]? = w.heap[k]?) → P w'
theorem Since.here {B : Nat} {w : World} {P : World → Prop} (h : Since B w P) : P w := h w (Nat.le_refl _) fun _ _ _ => rfl
theorem Since.step {B : Nat} {w w' : World} {P : World → Prop} (h : Since B w P) (hs : w.heap.size ≤ w'.heap.size) (hb : ∀ k, B ≤ k → k < w.heap.size → w'.heap[k]? = w.heap[k]?) : Since B w' P :=
  fun u h1 h2 => h u (Nat.le_trans hs h1) fun k hk hlt => (h2 k hk (Nat.lt_of_lt_of_le hlt hs)).trans (hb k hk hlt)
theorem Since.within {B lo hi : Nat} {w w' : World} {P : World → Prop} (h : Since B w P) (hw : Within lo hi w w') (hd : hi ≤ B) : Since B w' P := h.step hw.size fun k hk hlt => hw.block k hlt (.inr (by omega))
theorem Since.below {B : Nat} {w w' : World} {P : World → Prop} (h : Since B w P) (hb : Below w.heap.size w w') : Since B w' P := h.step hb.size fun k _ hlt => hb.block k hlt
theorem OwnI.since {B : Nat} {w w' : World} {v : Value} {l : List Int} (h : OwnI w B v l) (hs : w.heap.size ≤ w'.heap.size) (hb : ∀ k, B ≤ k → k < w.heap.size → w'.heap[k]? = w.heap[k]?) : OwnI w' B v l := by
  refine ⟨h.1, h.2.1, ?_⟩
  rcases h.2.2 with h2 | ⟨g, cap, cur, rfl, hg, hr, r⟩
  · exact .inl h2
  · exact .inr ⟨g, cap, cur, rfl, hg, (hb g hg (Array.getElem?_eq_some_iff.1 hr).1).trans hr, r⟩
theorem Since.of_ownI {B B' : Nat} {w : World} {v : Value} {l : List Int} (h : OwnI w B v l) (hB : B' ≤ B) : Since B' w (fun u => Ints u v l) := fun u hs hb => (h.since hs fun k hk hlt => hb k (by omega) hlt).ints
set_option maxRecDepth 100000 in
set_option maxHeartbeats 4000000 in
theorem spec_anyCoins (w0 : World) (g : Nat) (n P Q G : Int) (m : Nat) (w : World) (h : Cur w0 w g n) (hb : Below w0.heap.size w0 w) (hn : n ≤ 900000000000000) (hgr : GrB ⟨P, Q, G⟩) (hm : m ≤ 1000) :
    Calls Try.prog 100 #[.pointer (some ⟨g, 0, none⟩), .agg #[.int .i64 P, .int .i64 Q, .int .i64 G], .int .i64 m] w fun e w' => (∃ v' l, e = .returned v' ∧ Since w.heap.size w' (fun u => Ints u v' l) ∧ l.length ≤ m + 1) ∧ Cur w0 w' g (n + 4010) ∧ Within g (g + 1) w w' := by
  have HGR := Lib.hid hgr
  obtain ⟨⟨P1, P2⟩, ⟨Q1, Q2⟩, ⟨G1, G2⟩⟩ := hgr
  simp only [] at P1 P2 Q1 Q2 G1 G2
  have HC := Lib.hid h
  have hg := h.lt
  have hg0 := h.ge
  have HB0 := Lib.hid hb
  clear h hb
  obtain ⟨W, hW⟩ : ∃ W, W = w.alloc (.cells #[.int .i64 P, .int .i64 Q, .int .i64 G] 24) := ⟨_, rfl⟩
  have hbW : Below w.heap.size w W := by rw [hW]; exact (Below.refl _ _).alloc (Nat.le_refl _) _
  have HX : Hid (BoxN W w.heap.size 24 [.int .i64 P, .int .i64 Q, .int .i64 G]) := by unfold Hid; rw [hW]; exact BoxN.new w _ _
  have HSW : Hid (W.heap.size = w.heap.size + 1) := by unfold Hid; rw [hW]; simp
  have hsW : w.heap.size < W.heap.size := by have := HSW.out; omega
  replace HC := Lib.hid (HC.out.keep hbW)
  have HBW := Lib.hid hbW
  have HWW : Hid (Within g (g + 1) w W) := Within.of_below hbW
  have HB1 := Lib.hid (Below.next HB0.out hbW)
  clear hbW
  go_enter Try.func100, Try.ntmps100
  go_wp2_with fail
  rw [← hW]
  clear hW
  refine (spec_coins w0 g _ P Q G m _ HC.out HB1.out (by omega) HGR.out hm).mono ?_
  rintro e w1 ⟨⟨v1, l, rfl, hO, hl, _⟩, hc, hw⟩
  obtain ⟨ao, co, rfl⟩ := hO.shape
  rw [hl] at hO ⊢
  have HK := Lib.hid hl
  have HO := Lib.hid hO
  replace HX := Lib.hid (HX.out.kept hw (.inr (by omega)))
  replace HWW := Lib.hid (HWW.out.trans hw)
  replace HB1 := Lib.hid (hw.belowOf HB1.out (by omega))
  replace HC := Lib.hid hc
  have hs1 := hw.size
  clear hc hw hl hO
  go_wp2_with fail
  refine (spec_pick w0 g _ 30 _ HC.out HB1.out (by omega)).mono ?_
  rintro e wr ⟨⟨i, rfl, hi0, _, hi2, _⟩, hc, hw⟩
  clear hi2
  replace HO := Lib.hid (HO.out.within hw (by omega))
  replace HX := Lib.hid (HX.out.kept hw (.inr (by omega)))
  replace HWW := Lib.hid (HWW.out.trans hw)
  replace HB1 := Lib.hid (hw.belowOf HB1.out (by omega))
  replace HC := Lib.hid hc
  have hs2 := hw.size
  clear hc hw
  have c0 := HX.out.cell (i := 0) rfl
  have c1 := HX.out.cell (i := 1) rfl
  have c2 := HX.out.cell (i := 2) rfl
  rcases (by omega : i = 0 ∨ i = 1 ∨ i = 2 ∨ (i ≠ 0 ∧ i ≠ 1 ∧ i ≠ 2)) with rfl | rfl | rfl | ⟨i0, i1, i2⟩
  · clear c0 c1 c2
    go_wp2_with (at_builtin; refine wpList_append_ints rfl _ _ rfl W.heap.size _ _ l [0] rfl (HO.out.alloc _) rfl (Ints.lit1 _ ⟨by decide, by decide⟩) (by rw [HK.out]; simp; omega) (by simp; omega) ?_; intro v4 w4 hown4 hgr4)
    have hb4 := (HO.out.alloc _).grown hgr4 (by simp; omega)
    have hb5 := ((Below.refl W.heap.size wr).alloc (by omega) _).trans hb4
    have HB5 := Lib.hid hb5
    have HO4 := Lib.hid hown4
    clear hb4 hb5 hown4 hgr4
    go_ret
    exact ⟨⟨_, _, rfl, Since.of_ownI HO4.out (by omega), by rw [List.length_append, HK.out]; simp⟩, (HC.out.belowB HB5.out (by omega)).mono (by omega), HWW.out.belowStep (HB5.out.mono (by omega))⟩
  · clear c0 c1 c2
    rcases Nat.eq_zero_or_pos m with hm0 | hm0
    · subst hm0
      go_wp2_with fail
      go_ret
      exact ⟨⟨_, l, rfl, Since.of_ownI HO.out (by omega), by rw [HK.out]; omega⟩, HC.out.mono (by omega), HWW.out⟩
    · have hpos : (0 : Int) < (m : Int) := by omega
      obtain ⟨a1, hs1', HI1⟩ := sl_dropU (a := ao) (n := m) (c := co) (x := 1) (k := 1) rfl (by omega)
      have HQ := Lib.hid HI1
      clear HI1
      have HA : Hid (Since w.heap.size wr (fun u => Ints u (.slice a1 (m - 1) (co - 1)) (l.drop 1))) := fun u hs hb => HQ.out u l (HO.out.since hs fun k hk hlt => hb k (by omega) hlt).ints
      go_wp2_with fail
      go_ret
      exact ⟨⟨_, _, rfl, HA.out, by rw [List.length_drop, HK.out]; omega⟩, HC.out.mono (by omega), HWW.out⟩
  · rcases Nat.eq_zero_or_pos m with hm0 | hm0
    · subst hm0
      clear c0 c1 c2
      go_wp2_with fail
      go_ret
      exact ⟨⟨_, l, rfl, Since.of_ownI HO.out (by omega), by rw [HK.out]; omega⟩, HC.out.mono (by omega), HWW.out⟩
    · have hpos : (0 : Int) < (m : Int) := by omega
      go_wp2_with fail
      refine wp_region_noPanic ?_
      refine wp_region_U (fun w' => Within g (g + 1) wr w' ∧ w'.cell? ⟨w.heap.size, 1, none⟩ = some (.int .i64 Q)) 16 [.rd 0, .rd 1, .rd 2, .rd 4, .rd 5, .rd 6, .both 3 7, .one 8] [9, 10] (by kernel_rfl) (by kernel_rfl) rfl (fun _ _ _ _ _ h => h) ⟨(Within.refl _ _ _).drew, c1⟩ ?_
      simp only [pickU, pickN, List.getElem?_cons_zero, List.getElem?_cons_succ]
      have hwz : Within g (g + 1) wr wr.drew := (Within.refl _ _ _).drew
      repeat (refine' wpU_read _ (by kernel_rfl) (fun w' hS' => ?_) ?_; rotate_left; · ((try dsimp only at hS'); go_simp; (try with_reducible rfl)); (try simp only [Act.put, List.setIfInBounds_toArray, List.set_cons_zero, List.set_cons_succ]))
      refine wpU_both ?_ ?_
      · refine wpO_do (by kernel_rfl) (fun K hK => ?_)
        go_simp
        go_at_call 72
        refine (spec_pick w0 g _ m _ (HC.out.keep (Below.refl _ _).drew) (hwz.belowOf HB1.out (by omega)) (by omega)).mono ?_
        rintro e w4 ⟨⟨y, rfl, hy0, _, hy2, _⟩, hc, hw⟩
        replace hy2 := hy2 (by omega)
        obtain ⟨j, rfl⟩ := Int.eq_ofNat_of_zero_le hy0
        have hw4 := hwz.trans hw
        have HC4 := Lib.hid hc
        have hs4 := hw4.size
        clear hc hw hwz
        refine hK.out _ _ ⟨hw4, within_at hw4 c1 (.inr (by omega))⟩ (fun _ => ?_)
        clear hK K
        try simp only [Act.put, List.setIfInBounds_toArray, List.set_cons_zero, List.set_cons_succ]
        refine wpO_do (by kernel_rfl) (fun K hK => ?_)
        go_simp
        have hw5 : Within g (g + 1) wr (w4.alloc (.cells #[.int .i64 (-1), .int .i64 Q] 3)) := hw4.allocR _
        refine hK.out _ _ ⟨hw5, within_at hw5 c1 (.inr (by omega))⟩ (fun _ => ?_)
        clear hK K
        try simp only [Act.put, List.setIfInBounds_toArray, List.set_cons_zero, List.set_cons_succ]
        refine wpU_do (by kernel_rfl) (fun K hK => ?_)
        go_simp
        go_at_call 71
        refine (spec_among w0 g _ _ [-1, Q] _ (HC4.out.keep ((Below.refl _ _).alloc (Nat.le_refl _) _)) (hw5.belowOf HB1.out (by omega)) (by omega) (Apart.of_ownI (OwnI.lit w4 (Nat.le_refl _) (lit_I64 (by simp; omega)) (by rfl) (by simp; decide) 2 rfl) (by omega)) (by simp)).mono ?_
        rintro e w6 ⟨⟨x, rfl, hx⟩, hc, hw⟩
        have hxb : -10 ≤ x ∧ x ≤ 2000000010 := by
          simp only [List.mem_cons, List.not_mem_nil, or_false] at hx
          omega
        have hw6 := hw5.trans hw
        have HC6 := Lib.hid hc
        clear hc hw hx
        refine hK.out _ _ ⟨hw6, within_at hw6 c1 (.inr (by omega))⟩ (fun _ => ?_)
        clear hK K
        try simp only [Act.put, List.setIfInBounds_toArray, List.set_cons_zero, List.set_cons_succ]
        repeat (refine' wpU_read _ (by kernel_rfl) (fun w' hS' => ?_) ?_; rotate_left; · ((try dsimp only at hS'); go_simp; (try with_reducible rfl)); (try simp only [Act.put, List.setIfInBounds_toArray, List.set_cons_zero, List.set_cons_succ]))
        refine wpU_nil ?_
        have HO6 := Lib.hid (HO.out.within hw6 (by omega))
        have HW6 := Lib.hid (HWW.out.trans hw6)
        have hs6 := hw6.size
        clear hw6 c0 c1 c2
        obtain ⟨b, rfl, hbw, _, hcx⟩ := HO6.out.at_ (by have := HK.out; omega)
        obtain ⟨y1, y2⟩ := hcx j (by omega)
        have HS := Lib.hid (HO6.out.stored HK.out j (x := x) ⟨by omega, by omega⟩)
        clear hcx
        have hj0 : (0 : Int) ≤ (j : Int) := by omega
        go_wp2_with fail
        refine NoPanic.normal ?_
        have HBs : Hid (Below w.heap.size w6 (w6.setCell ⟨b, j, none⟩ (.int .i64 x))) := (Below.refl w.heap.size _).setCell (by show w.heap.size ≤ b; omega) _
        clear y1 y2
        go_wp2_with fail
        go_ret
        exact ⟨⟨_, _, rfl, Since.of_ownI HS.out.1 (by omega), by rw [List.length_set, HK.out]; omega⟩, (HC6.out.belowB HBs.out hg).mono (by omega), HW6.out.belowStep HBs.out⟩
      · refine wpO_do (by kernel_rfl) (fun K hK => ?_)
        go_simp
        have hw5 : Within g (g + 1) wr ((wr.alloc (.cells #[.int .i64 (-1), .int .i64 Q] 3)).drew) := ((Within.refl _ _ _).allocR _).drew
        have hb5 : Below wr.heap.size wr ((wr.alloc (.cells #[.int .i64 (-1), .int .i64 Q] 3)).drew) := ((Below.refl _ _).alloc (Nat.le_refl _) _).drew
        have HOL : Hid (OwnI ((wr.alloc (.cells #[.int .i64 (-1), .int .i64 Q] 3)).drew) wr.heap.size (.slice (some ⟨wr.heap.size, 0, none⟩) 2 2) [-1, Q]) := (OwnI.lit wr (Nat.le_refl _) (lit_I64 (by simp; omega)) (by rfl) (by simp; decide) 2 rfl).below (Below.refl _ _).drew
        refine hK.out _ _ ⟨hw5, within_at hw5 c1 (.inr (by omega))⟩ (fun _ => ?_)
        clear hK K hwz
        try simp only [Act.put, List.setIfInBounds_toArray, List.set_cons_zero, List.set_cons_succ]
        refine wpO_do (by kernel_rfl) (fun K hK => ?_)
        go_simp
        go_at_call 72
        refine (spec_pick w0 g _ m _ (HC.out.keep hb5) (hw5.belowOf HB1.out (by omega)) (by omega)).mono ?_
        rintro e w4 ⟨⟨y, rfl, hy0, _, hy2, _⟩, hc, hw⟩
        replace hy2 := hy2 (by omega)
        obtain ⟨j, rfl⟩ := Int.eq_ofNat_of_zero_le hy0
        have hw4 := hw5.trans hw
        have HC4 := Lib.hid hc
        have HOL4 := Lib.hid (HOL.out.within hw (by omega))
        have hs4 := hw4.size
        clear hc hw hw5 hb5 HOL
        refine hK.out _ _ ⟨hw4, within_at hw4 c1 (.inr (by omega))⟩ (fun _ => ?_)
        clear hK K
        try simp only [Act.put, List.setIfInBounds_toArray, List.set_cons_zero, List.set_cons_succ]
        refine wpU_do (by kernel_rfl) (fun K hK => ?_)
        go_simp
        go_at_call 71
        refine (spec_among w0 g _ _ [-1, Q] _ HC4.out (hw4.belowOf HB1.out (by omega)) (by omega) (Apart.of_ownI (HOL4.out) (by omega)) (by simp)).mono ?_
        rintro e w6 ⟨⟨x, rfl, hx⟩, hc, hw⟩
        have hxb : -10 ≤ x ∧ x ≤ 2000000010 := by
          simp only [List.mem_cons, List.not_mem_nil, or_false] at hx
          omega
        have hw6 := hw4.trans hw
        have HC6 := Lib.hid hc
        clear hc hw hx
        refine hK.out _ _ ⟨hw6, within_at hw6 c1 (.inr (by omega))⟩ (fun _ => ?_)
        clear hK K
        try simp only [Act.put, List.setIfInBounds_toArray, List.set_cons_zero, List.set_cons_succ]
        repeat (refine' wpU_read _ (by kernel_rfl) (fun w' hS' => ?_) ?_; rotate_left; · ((try dsimp only at hS'); go_simp; (try with_reducible rfl)); (try simp only [Act.put, List.setIfInBounds_toArray, List.set_cons_zero, List.set_cons_succ]))
        refine wpU_nil ?_
        have HO6 := Lib.hid (HO.out.within hw6 (by omega))
        have HW6 := Lib.hid (HWW.out.trans hw6)
        have hs6 := hw6.size
        clear hw6 c0 c1 c2
        obtain ⟨b, rfl, hbw, _, hcx⟩ := HO6.out.at_ (by have := HK.out; omega)
        obtain ⟨y1, y2⟩ := hcx j (by omega)
        have HS := Lib.hid (HO6.out.stored HK.out j (x := x) ⟨by omega, by omega⟩)
        clear hcx
        have hj0 : (0 : Int) ≤ (j : Int) := by omega
        go_wp2_with fail
        refine NoPanic.normal ?_
        have HBs : Hid (Below w.heap.size w6 (w6.setCell ⟨b, j, none⟩ (.int .i64 x))) := (Below.refl w.heap.size _).setCell (by show w.heap.size ≤ b; omega) _
        clear y1 y2
        go_wp2_with fail
        go_ret
        exact ⟨⟨_, _, rfl, Since.of_ownI HS.out.1 (by omega), by rw [List.length_set, HK.out]; omega⟩, (HC6.out.belowB HBs.out hg).mono (by omega), HW6.out.belowStep HBs.out⟩
  · have j0 : (i == 0) = false := by rw [beq_eq_false_iff_ne]; exact i0
    have j1 : (i == 1) = false := by rw [beq_eq_false_iff_ne]; exact i1
    have j2 : (i == 2) = false := by rw [beq_eq_false_iff_ne]; exact i2
    clear i0 i1 i2 c0 c1 c2
    go_wp2_with fail
    go_ret
    exact ⟨⟨_, l, rfl, Since.of_ownI HO.out (by omega), by rw [HK.out]; omega⟩, HC.out.mono (by omega), HWW.out⟩
end Go.Proofs.Ytacpnphfopmofaa
