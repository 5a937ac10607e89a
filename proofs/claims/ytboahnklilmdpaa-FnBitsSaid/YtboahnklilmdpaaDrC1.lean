/- Draws: ciphertexts: walks (printed by gen_drc1.py). -/
import Derived.Test.YtboahnklilmdpaaDrG6
import Derived.Test.YtboahnklilmdpaaRegQ
import Derived.Test.YtboahnklilmdpaaKCipher
namespace Go.Proofs.Ytboahnklilmdpaa
open Go.RowKit
set_option linter.unusedSimpArgs false
set_option linter.unusedVariables false

theorem Since.mono {B B' : Nat} {w : World} {P : World → Prop} (h : Since B w P) (hB : B' ≤ B) : Since B' w P := fun w' hs hb => h w' hs fun k hk hlt => hb k (by omega) hlt
theorem Within.setNew {lo hi : Nat} {w u : World} (h : Within lo hi w u) {b : Nat} (hb : w.heap.size ≤ b) (j : Nat) (x : Value) : Within lo hi w (u.setCell ⟨b, j, none⟩ x) :=
  h.belowStep ((Below.refl w.heap.size u).setCell (p := ⟨b, j, none⟩) hb x)
theorem Cur.setNew {w0 u : World} {g : Nat} {n : Int} (h : Cur w0 u g n) {b : Nat} (hb : g < b) (j : Nat) (x : Value) : Cur w0 (u.setCell ⟨b, j, none⟩ x) g n := by
  obtain ⟨h1, v, p, s, hB, h2⟩ := h
  exact ⟨h1, v, p, s, hB.other (by omega) j x, h2⟩
set_option maxRecDepth 100000 in
set_option maxHeartbeats 4000000 in
theorem spec_cipher (w0 : World) (g : Nat) (n P Q G : Int) (w : World) (h : Cur w0 w g n) (hb : Below w0.heap.size w0 w) (hn : n ≤ 500000000000000) (hgr : GrB ⟨P, Q, G⟩) :
    Calls Try.prog 256 #[.pointer (some ⟨g, 0, none⟩), .agg #[.int .i64 P, .int .i64 Q, .int .i64 G]] w fun e w' => (∃ (xr0 : Int) (yr0 : Int), e = .returned (.agg #[.int .i64 xr0, .int .i64 yr0]) ∧ ((-10 ≤ xr0 ∧ xr0 ≤ 2000000010) ∧ (-10 ≤ yr0 ∧ yr0 ≤ 2000000010))) ∧ Cur w0 w' g (n + 100000) ∧ Within g (g + 1) w w' := by
  have HGR := Lib.hid hgr
  have HBB := Lib.hid hb
  have hge := h.ge
  have hgw := h.lt
  clear hgr hb
  obtain ⟨W, hW⟩ : ∃ W, W = (w.alloc (.cells #[.int .i64 P, .int .i64 Q, .int .i64 G] 39)).alloc (.cells #[.int .i64 0, .int .i64 0] 58) := ⟨_, rfl⟩
  have hbW : Below w.heap.size w W := by rw [hW]; (repeat (first | exact Below.refl _ _ | assumption | refine Below.drew ?_ | refine Below.alloc ?_ (by first | (simp; done) | (simp; omega)) _ | refine Below.setCell ?_ (by first | (simp; done) | (simp; omega)) _))
  have HZg : Hid (BoxN W w.heap.size 39 [.int .i64 P, .int .i64 Q, .int .i64 G]) := by unfold Hid; rw [hW]; have h := ((BoxN.new w [.int .i64 P, .int .i64 Q, .int .i64 G] 39).alloc (.cells #[.int .i64 0, .int .i64 0] 58)); simpa using h
  have HX0 : Hid (BoxN W (w.heap.size + 1) 58 [.int .i64 0, .int .i64 0]) := by unfold Hid; rw [hW]; have h := (BoxN.new (w.alloc (.cells #[.int .i64 P, .int .i64 Q, .int .i64 G] 39)) [.int .i64 0, .int .i64 0] 58); simpa using h
  have hsW : W.heap.size = w.heap.size + 2 := by rw [hW]; simp
  have HC := Lib.hid (h.keep hbW)
  have HWw := Lib.hid (Within.of_below hbW : Within g (g + 1) w W)
  have HBW : Hid (Below w0.heap.size w0 W) := HBB.out.trans (hbW.mono HBB.out.size)
  clear h
  go_enter Try.func256, Try.ntmps256
  go_wp2_with fail
  rw [← hW]
  have HW := Lib.hid (Within.refl g (g + 1) W)
  clear hW hbW
  have z_0_0 := HZg.out.cell (i := 0) rfl
  have z_0_1 := HZg.out.cell (i := 1) rfl
  have z_0_2 := HZg.out.cell (i := 2) rfl
  have z_1_0 := HX0.out.cell (i := 0) rfl
  have z_1_1 := HX0.out.cell (i := 1) rfl
  try (go_wp2_with fail)
  refine wp_region_noPanic ?_
  refine wp_region_Q (Within g (g + 1)) (DrawS w0 W g _ 5000 (fun w' => w'.cell? ⟨w.heap.size, 0, none⟩ = some (.int .i64 P) ∧ w'.cell? ⟨w.heap.size, 1, none⟩ = some (.int .i64 Q) ∧ w'.cell? ⟨w.heap.size, 2, none⟩ = some (.int .i64 G))) 10 [(0, []), (1, []), (2, [1, 0]), (3, []), (4, []), (5, [1, 0])] [6, 7] (by kernel_rfl) (by kernel_rfl) (by kernel_rfl) rfl (fun _ _ _ _ h => h) (DrawS.good _ _ _ _ _ _) ⟨(Within.refl _ _ _).drew, by simpa using HC.out.keep (Below.refl _ _).drew, ⟨box_at z_0_0 (Below.refl _ _).drew, box_at z_0_1 (Below.refl _ _).drew, box_at z_0_2 (Below.refl _ _).drew⟩⟩ ?_
  simp only [pickP, pickN, List.getElem?_cons_zero, List.getElem?_cons_succ]
  -- 0: move t0
  refine' chainQ_read (DrawS.good _ _ _ _ _ _) (d := (some 5)) _ rfl rfl (fun m w' hm' hS' => ?_) ?_; rotate_left
  · simp only [lookP, allP, Act.put, List.getElem?_cons_zero, List.getElem?_cons_succ, List.setIfInBounds_toArray, List.set_cons_zero, List.set_cons_succ]
    (try dsimp only [DrawS] at hS')
    go_simp
    (try with_reducible rfl)
  -- 1: load 39 t3
  refine' chainQ_read (DrawS.good _ _ _ _ _ _) (d := (some 6)) _ rfl rfl (fun m w' hm' hS' => ?_) ?_; rotate_left
  · simp only [lookP, allP, Act.put, List.getElem?_cons_zero, List.getElem?_cons_succ, List.setIfInBounds_toArray, List.set_cons_zero, List.set_cons_succ]
    (try dsimp only [DrawS] at hS')
    go_simp
    (try with_reducible rfl)
  -- 2: call { callee := value (func 257), args := #[t5, t6], argTypes := #[167, 39] }
  refine chainQ_do (d := (some 7)) (fun v u => ∃ (xq2 : Int), v = (.int .i64 xq2) ∧ (-10 ≤ xq2 ∧ xq2 ≤ 2000000010)) (fun v w1 w2 hw h => h) rfl rfl (fun m w' hm' hS' => ?_) ?_
  · simp only [lookP, allP, Act.put, List.getElem?_cons_zero, List.getElem?_cons_succ, List.setIfInBounds_toArray, List.set_cons_zero, List.set_cons_succ]
    intro K hK
    replace hm' : m < 6 := hm'
    go_simp
    go_at_call 257
    refine (spec_element w0 g _ P Q G _ hS'.2.1 (hS'.1.belowOf (HW.out.belowOf HBW.out hge) hge) (by omega) HGR.out).mono ?_
    rintro e u ⟨⟨xq2, rfl, xq2l, xq2u⟩, hc, hw⟩
    exact hK.out _ _ hw ⟨hS'.1.trans hw, hc.mono (by omega), ⟨within_at (hS'.1.trans hw) z_0_0 (.inr (by omega)), within_at (hS'.1.trans hw) z_0_1 (.inr (by omega)), within_at (hS'.1.trans hw) z_0_2 (.inr (by omega))⟩⟩ ⟨xq2, rfl, ⟨by omega, xq2u⟩⟩
  -- 3: move t0
  refine' chainQ_read (DrawS.good _ _ _ _ _ _) (d := (some 8)) _ rfl rfl (fun m w' hm' hS' => ?_) ?_; rotate_left
  · simp only [lookP, allP, Act.put, List.getElem?_cons_zero, List.getElem?_cons_succ, List.setIfInBounds_toArray, List.set_cons_zero, List.set_cons_succ]
    (try dsimp only [DrawS] at hS')
    go_simp
    (try with_reducible rfl)
  -- 4: load 39 t3
  refine' chainQ_read (DrawS.good _ _ _ _ _ _) (d := (some 9)) _ rfl rfl (fun m w' hm' hS' => ?_) ?_; rotate_left
  · simp only [lookP, allP, Act.put, List.getElem?_cons_zero, List.getElem?_cons_succ, List.setIfInBounds_toArray, List.set_cons_zero, List.set_cons_succ]
    (try dsimp only [DrawS] at hS')
    go_simp
    (try with_reducible rfl)
  -- 5: call { callee := value (func 257), args := #[t8, t9], argTypes := #[167, 39] }
  refine chainQ_do (d := (some 10)) (fun v u => ∃ (xq5 : Int), v = (.int .i64 xq5) ∧ (-10 ≤ xq5 ∧ xq5 ≤ 2000000010)) (fun v w1 w2 hw h => h) rfl rfl (fun m w' hm' hS' => ?_) ?_
  · simp only [lookP, allP, Act.put, List.getElem?_cons_zero, List.getElem?_cons_succ, List.setIfInBounds_toArray, List.set_cons_zero, List.set_cons_succ]
    intro K hK
    replace hm' : m < 6 := hm'
    go_simp
    go_at_call 257
    refine (spec_element w0 g _ P Q G _ hS'.2.1 (hS'.1.belowOf (HW.out.belowOf HBW.out hge) hge) (by omega) HGR.out).mono ?_
    rintro e u ⟨⟨xq5, rfl, xq5l, xq5u⟩, hc, hw⟩
    exact hK.out _ _ hw ⟨hS'.1.trans hw, hc.mono (by omega), ⟨within_at (hS'.1.trans hw) z_0_0 (.inr (by omega)), within_at (hS'.1.trans hw) z_0_1 (.inr (by omega)), within_at (hS'.1.trans hw) z_0_2 (.inr (by omega))⟩⟩ ⟨xq5, rfl, ⟨by omega, xq5u⟩⟩
  refine chainQ_nil (fun u1 hS' => ?_)
  simp only [allP, Act.put, List.setIfInBounds_toArray, List.set_cons_zero, List.set_cons_succ]
  intro x5 hx5
  intro x2 hx2
  replace hS' : DrawS w0 W g _ 5000 _ 6 u1 := hS'
  obtain ⟨hw, hc, hC⟩ := hS'
  obtain ⟨xq2, rfl, xq2l, xq2u⟩ := hx2
  obtain ⟨xq5, rfl, xq5l, xq5u⟩ := hx5
  have hsz1 := hw.size
  replace HZg := Lib.hid (HZg.out.kept hw (.inr (by omega)))
  replace HX0 := Lib.hid (HX0.out.kept hw (.inr (by omega)))
  replace HW := Lib.hid (HW.out.trans hw)
  replace HC := Lib.hid hc
  clear hc hw hC
  clear z_0_0 z_0_1 z_0_2 z_1_0 z_1_1
  have r_HX0_0 := HX0.out.cell (i := 0) rfl
  have r_HX0_1 := HX0.out.cell (i := 1) rfl
  have fr_HX0 := fun j => HX0.out.frozen j
  go_wp2_with fail
  refine NoPanic.normal ?_
  have FHX0 := Lib.hid ((HX0.out.set 0 (.int .i64 xq2)).set 1 (.int .i64 xq5))
  clear r_HX0_0 r_HX0_1 fr_HX0
  have t_HX0_0 := FHX0.out.cell (i := 0) rfl
  have t_HX0_1 := FHX0.out.cell (i := 1) rfl
  try (go_wp2_with fail)
  refine bodyPost_ret (v := .agg #[.int .i64 xq2, .int .i64 xq5]) (by simp [results, Try.results256, go_sem, t_HX0_0, t_HX0_1]) rfl ⟨⟨_, _, rfl, ⟨⟨by omega, by omega⟩, ⟨by omega, by omega⟩⟩⟩, ((HC.out.setNew (b := w.heap.size + 1) (by omega) 0 (.int .i64 xq2)).setNew (b := w.heap.size + 1) (by omega) 1 (.int .i64 xq5)).mono (by omega), (((HWw.out.trans HW.out).setNew (b := w.heap.size + 1) (by omega) 0 (.int .i64 xq2)).setNew (b := w.heap.size + 1) (by omega) 1 (.int .i64 xq5))⟩
set_option maxRecDepth 100000 in
set_option maxHeartbeats 4000000 in
theorem spec_anyCipher (w0 : World) (g : Nat) (n P Q G : Int) (w : World) (h : Cur w0 w g n) (hb : Below w0.heap.size w0 w) (hn : n ≤ 500000000000000) (hgr : GrB ⟨P, Q, G⟩) :
    Calls Try.prog 146 #[.pointer (some ⟨g, 0, none⟩), .agg #[.int .i64 P, .int .i64 Q, .int .i64 G]] w fun e w' => (∃ (xr0 : Int) (yr0 : Int), e = .returned (.agg #[.int .i64 xr0, .int .i64 yr0]) ∧ ((-10 ≤ xr0 ∧ xr0 ≤ 2000000010) ∧ (-10 ≤ yr0 ∧ yr0 ≤ 2000000010))) ∧ Cur w0 w' g (n + 100000) ∧ Within g (g + 1) w w' := by
  have HGR := Lib.hid hgr
  have HBB := Lib.hid hb
  have hge := h.ge
  have hgw := h.lt
  clear hgr hb
  obtain ⟨W, hW⟩ : ∃ W, W = (w.alloc (.cells #[.int .i64 P, .int .i64 Q, .int .i64 G] 39)).alloc (.cells #[.int .i64 0, .int .i64 0] 58) := ⟨_, rfl⟩
  have hbW : Below w.heap.size w W := by rw [hW]; (repeat (first | exact Below.refl _ _ | assumption | refine Below.drew ?_ | refine Below.alloc ?_ (by first | (simp; done) | (simp; omega)) _ | refine Below.setCell ?_ (by first | (simp; done) | (simp; omega)) _))
  have HZg : Hid (BoxN W w.heap.size 39 [.int .i64 P, .int .i64 Q, .int .i64 G]) := by unfold Hid; rw [hW]; have h := ((BoxN.new w [.int .i64 P, .int .i64 Q, .int .i64 G] 39).alloc (.cells #[.int .i64 0, .int .i64 0] 58)); simpa using h
  have HX0 : Hid (BoxN W (w.heap.size + 1) 58 [.int .i64 0, .int .i64 0]) := by unfold Hid; rw [hW]; have h := (BoxN.new (w.alloc (.cells #[.int .i64 P, .int .i64 Q, .int .i64 G] 39)) [.int .i64 0, .int .i64 0] 58); simpa using h
  have hsW : W.heap.size = w.heap.size + 2 := by rw [hW]; simp
  have HC := Lib.hid (h.keep hbW)
  have HWw := Lib.hid (Within.of_below hbW : Within g (g + 1) w W)
  have HBW : Hid (Below w0.heap.size w0 W) := HBB.out.trans (hbW.mono HBB.out.size)
  clear h
  go_enter Try.func146, Try.ntmps146
  go_wp2_with fail
  rw [← hW]
  have HW := Lib.hid (Within.refl g (g + 1) W)
  clear hW hbW
  have z_0_0 := HZg.out.cell (i := 0) rfl
  have z_0_1 := HZg.out.cell (i := 1) rfl
  have z_0_2 := HZg.out.cell (i := 2) rfl
  have z_1_0 := HX0.out.cell (i := 0) rfl
  have z_1_1 := HX0.out.cell (i := 1) rfl
  try (go_wp2_with fail)
  refine wp_region_noPanic ?_
  refine wp_region_Q (Within g (g + 1)) (DrawS w0 W g _ 5000 (fun w' => w'.cell? ⟨w.heap.size, 0, none⟩ = some (.int .i64 P) ∧ w'.cell? ⟨w.heap.size, 1, none⟩ = some (.int .i64 Q) ∧ w'.cell? ⟨w.heap.size, 2, none⟩ = some (.int .i64 G))) 10 [(0, []), (1, []), (2, [1, 0]), (3, []), (4, []), (5, [1, 0])] [6, 7] (by kernel_rfl) (by kernel_rfl) (by kernel_rfl) rfl (fun _ _ _ _ h => h) (DrawS.good _ _ _ _ _ _) ⟨(Within.refl _ _ _).drew, by simpa using HC.out.keep (Below.refl _ _).drew, ⟨box_at z_0_0 (Below.refl _ _).drew, box_at z_0_1 (Below.refl _ _).drew, box_at z_0_2 (Below.refl _ _).drew⟩⟩ ?_
  simp only [pickP, pickN, List.getElem?_cons_zero, List.getElem?_cons_succ]
  -- 0: move t0
  refine' chainQ_read (DrawS.good _ _ _ _ _ _) (d := (some 5)) _ rfl rfl (fun m w' hm' hS' => ?_) ?_; rotate_left
  · simp only [lookP, allP, Act.put, List.getElem?_cons_zero, List.getElem?_cons_succ, List.setIfInBounds_toArray, List.set_cons_zero, List.set_cons_succ]
    (try dsimp only [DrawS] at hS')
    go_simp
    (try with_reducible rfl)
  -- 1: load 39 t3
  refine' chainQ_read (DrawS.good _ _ _ _ _ _) (d := (some 6)) _ rfl rfl (fun m w' hm' hS' => ?_) ?_; rotate_left
  · simp only [lookP, allP, Act.put, List.getElem?_cons_zero, List.getElem?_cons_succ, List.setIfInBounds_toArray, List.set_cons_zero, List.set_cons_succ]
    (try dsimp only [DrawS] at hS')
    go_simp
    (try with_reducible rfl)
  -- 2: call { callee := value (func 135), args := #[t5, t6], argTypes := #[167, 39] }
  refine chainQ_do (d := (some 7)) (fun v u => ∃ (xq2 : Int), v = (.int .i64 xq2) ∧ (-10 ≤ xq2 ∧ xq2 ≤ 2000000010)) (fun v w1 w2 hw h => h) rfl rfl (fun m w' hm' hS' => ?_) ?_
  · simp only [lookP, allP, Act.put, List.getElem?_cons_zero, List.getElem?_cons_succ, List.setIfInBounds_toArray, List.set_cons_zero, List.set_cons_succ]
    intro K hK
    replace hm' : m < 6 := hm'
    go_simp
    go_at_call 135
    refine (spec_anyElement w0 g _ P Q G _ hS'.2.1 (hS'.1.belowOf (HW.out.belowOf HBW.out hge) hge) (by omega) HGR.out).mono ?_
    rintro e u ⟨⟨xq2, rfl, xq2l, xq2u⟩, hc, hw⟩
    exact hK.out _ _ hw ⟨hS'.1.trans hw, hc.mono (by omega), ⟨within_at (hS'.1.trans hw) z_0_0 (.inr (by omega)), within_at (hS'.1.trans hw) z_0_1 (.inr (by omega)), within_at (hS'.1.trans hw) z_0_2 (.inr (by omega))⟩⟩ ⟨xq2, rfl, ⟨xq2l, xq2u⟩⟩
  -- 3: move t0
  refine' chainQ_read (DrawS.good _ _ _ _ _ _) (d := (some 8)) _ rfl rfl (fun m w' hm' hS' => ?_) ?_; rotate_left
  · simp only [lookP, allP, Act.put, List.getElem?_cons_zero, List.getElem?_cons_succ, List.setIfInBounds_toArray, List.set_cons_zero, List.set_cons_succ]
    (try dsimp only [DrawS] at hS')
    go_simp
    (try with_reducible rfl)
  -- 4: load 39 t3
  refine' chainQ_read (DrawS.good _ _ _ _ _ _) (d := (some 9)) _ rfl rfl (fun m w' hm' hS' => ?_) ?_; rotate_left
  · simp only [lookP, allP, Act.put, List.getElem?_cons_zero, List.getElem?_cons_succ, List.setIfInBounds_toArray, List.set_cons_zero, List.set_cons_succ]
    (try dsimp only [DrawS] at hS')
    go_simp
    (try with_reducible rfl)
  -- 5: call { callee := value (func 135), args := #[t8, t9], argTypes := #[167, 39] }
  refine chainQ_do (d := (some 10)) (fun v u => ∃ (xq5 : Int), v = (.int .i64 xq5) ∧ (-10 ≤ xq5 ∧ xq5 ≤ 2000000010)) (fun v w1 w2 hw h => h) rfl rfl (fun m w' hm' hS' => ?_) ?_
  · simp only [lookP, allP, Act.put, List.getElem?_cons_zero, List.getElem?_cons_succ, List.setIfInBounds_toArray, List.set_cons_zero, List.set_cons_succ]
    intro K hK
    replace hm' : m < 6 := hm'
    go_simp
    go_at_call 135
    refine (spec_anyElement w0 g _ P Q G _ hS'.2.1 (hS'.1.belowOf (HW.out.belowOf HBW.out hge) hge) (by omega) HGR.out).mono ?_
    rintro e u ⟨⟨xq5, rfl, xq5l, xq5u⟩, hc, hw⟩
    exact hK.out _ _ hw ⟨hS'.1.trans hw, hc.mono (by omega), ⟨within_at (hS'.1.trans hw) z_0_0 (.inr (by omega)), within_at (hS'.1.trans hw) z_0_1 (.inr (by omega)), within_at (hS'.1.trans hw) z_0_2 (.inr (by omega))⟩⟩ ⟨xq5, rfl, ⟨xq5l, xq5u⟩⟩
  refine chainQ_nil (fun u1 hS' => ?_)
  simp only [allP, Act.put, List.setIfInBounds_toArray, List.set_cons_zero, List.set_cons_succ]
  intro x5 hx5
  intro x2 hx2
  replace hS' : DrawS w0 W g _ 5000 _ 6 u1 := hS'
  obtain ⟨hw, hc, hC⟩ := hS'
  obtain ⟨xq2, rfl, xq2l, xq2u⟩ := hx2
  obtain ⟨xq5, rfl, xq5l, xq5u⟩ := hx5
  have hsz1 := hw.size
  replace HZg := Lib.hid (HZg.out.kept hw (.inr (by omega)))
  replace HX0 := Lib.hid (HX0.out.kept hw (.inr (by omega)))
  replace HW := Lib.hid (HW.out.trans hw)
  replace HC := Lib.hid hc
  clear hc hw hC
  clear z_0_0 z_0_1 z_0_2 z_1_0 z_1_1
  have r_HX0_0 := HX0.out.cell (i := 0) rfl
  have r_HX0_1 := HX0.out.cell (i := 1) rfl
  have fr_HX0 := fun j => HX0.out.frozen j
  go_wp2_with fail
  refine NoPanic.normal ?_
  have FHX0 := Lib.hid ((HX0.out.set 0 (.int .i64 xq2)).set 1 (.int .i64 xq5))
  clear r_HX0_0 r_HX0_1 fr_HX0
  have t_HX0_0 := FHX0.out.cell (i := 0) rfl
  have t_HX0_1 := FHX0.out.cell (i := 1) rfl
  try (go_wp2_with fail)
  refine bodyPost_ret (v := .agg #[.int .i64 xq2, .int .i64 xq5]) (by simp [results, Try.results146, go_sem, t_HX0_0, t_HX0_1]) rfl ⟨⟨_, _, rfl, ⟨⟨by omega, by omega⟩, ⟨by omega, by omega⟩⟩⟩, ((HC.out.setNew (b := w.heap.size + 1) (by omega) 0 (.int .i64 xq2)).setNew (b := w.heap.size + 1) (by omega) 1 (.int .i64 xq5)).mono (by omega), (((HWw.out.trans HW.out).setNew (b := w.heap.size + 1) (by omega) 0 (.int .i64 xq2)).setNew (b := w.heap.size + 1) (by omega) 1 (.int .i64 xq5))⟩
set_option maxRecDepth 100000 in
set_option maxHeartbeats 4000000 in
theorem spec_DrawPowCipher (v : Value) (w : World) (h : Bytes w v) :
    Calls Try.prog 30 #[v] w fun e w' => (∃ (P : Int) (Q : Int) (G : Int) (xr1 : Int) (yr1 : Int) (xr2 : Int), e = .returned (.tuple #[.agg #[.int .i64 P, .int .i64 Q, .int .i64 G], .agg #[.int .i64 xr1, .int .i64 yr1], .int .i64 xr2]) ∧ GrB ⟨P, Q, G⟩ ∧ ((-10 ≤ xr1 ∧ xr1 ≤ 2000000010) ∧ (-10 ≤ yr1 ∧ yr1 ≤ 2000000010)) ∧ (-10 ≤ xr2 ∧ xr2 ≤ 2000000010)) ∧ Below w.heap.size w w' := by
  obtain ⟨a, m, c, rfl, hk1, hk2, hv⟩ := h
  have HY : Hid (Bytes w (.slice a m c)) := ⟨a, m, c, rfl, hk1, hk2, hv⟩
  clear hv
  unfold maxLen at hk2
  obtain ⟨U, hU⟩ : ∃ U, U = (w.alloc (.cells #[.int .i64 0, .int .i64 0, .int .i64 0] 39)).alloc (.cells #[.int .i64 0, .int .i64 0] 58) := ⟨_, rfl⟩
  have hbU : Below w.heap.size w U := by rw [hU]; (repeat (first | exact Below.refl _ _ | assumption | refine Below.drew ?_ | refine Below.alloc ?_ (by first | (simp; done) | (simp; omega)) _ | refine Below.setCell ?_ (by first | (simp; done) | (simp; omega)) _))
  have HX0 : Hid (BoxN U w.heap.size 39 [.int .i64 0, .int .i64 0, .int .i64 0]) := by unfold Hid; rw [hU]; have h := ((BoxN.new w [.int .i64 0, .int .i64 0, .int .i64 0] 39).alloc (.cells #[.int .i64 0, .int .i64 0] 58)); simpa using h
  have HX1 : Hid (BoxN U (w.heap.size + 1) 58 [.int .i64 0, .int .i64 0]) := by unfold Hid; rw [hU]; have h := (BoxN.new (w.alloc (.cells #[.int .i64 0, .int .i64 0, .int .i64 0] 39)) [.int .i64 0, .int .i64 0] 58); simpa using h
  have hsU : U.heap.size = w.heap.size + 1 + 1 := by rw [hU]; simp
  obtain ⟨W, hW⟩ : ∃ W, W = U.alloc (.cells #[.slice a m c, .int .i64 0, .int .u64 0] 170) := ⟨_, rfl⟩
  have HC : Hid (Cur U W U.heap.size 0) := by unfold Hid; rw [hW]; exact Cur.new U (HY.out.below hbU)
  have hbW : Below U.heap.size U W := by rw [hW]; exact (Below.refl _ _).alloc (Nat.le_refl _) _
  have HBW := Lib.hid (Below.next hbU hbW)
  have HUB := Lib.hid hbW
  replace HX0 := Lib.hid (HX0.out.below hbW)
  replace HX1 := Lib.hid (HX1.out.below hbW)
  obtain ⟨g, hg⟩ : ∃ g, g = U.heap.size := ⟨_, rfl⟩
  have HSU : Hid (w.heap.size + 1 + 1 = g) := by unfold Hid; rw [hg, hsU]
  have HWS : Hid (W.heap.size = g + 1) := by unfold Hid; rw [hW, hg]; simp
  go_enter Try.func30, Try.ntmps30
  go_wp2_with fail
  rw [← hU, ← hW]
  rw [HSU.out]
  rw [← hg] at HC HUB
  have HUS : Hid (U.heap.size = g) := hg.symm
  have hwg : w.heap.size + 2 = g := HSU.out
  have hsW := HWS.out
  have HW := Lib.hid (Within.refl g (g + 1) W)
  have HUC : Hid (Below U.heap.size U W) := by unfold Hid; rw [HUS.out]; exact HUB.out
  clear hU hW hbU hbW hsU hg
  have z_0_0 := HX0.out.cell (i := 0) rfl
  have z_0_1 := HX0.out.cell (i := 1) rfl
  have z_0_2 := HX0.out.cell (i := 2) rfl
  have z_1_0 := HX1.out.cell (i := 0) rfl
  have z_1_1 := HX1.out.cell (i := 1) rfl
  try (go_wp2_with fail)
  clear z_0_0 z_0_1 z_0_2 z_1_0 z_1_1
  refine (spec_anyGroup U g _ _ HC.out (HW.out.belowOf HUC.out (Nat.le_of_eq HUS.out)) (by omega)).mono ?_
  rintro e u1 ⟨⟨P, Q, G, rfl, P1, Q1, G1⟩, hc, hw⟩
  have HGR : Hid (GrB ⟨P, Q, G⟩) := ⟨P1, Q1, G1⟩
  clear P1 Q1 G1
  have hsz1 := hw.size
  replace HX0 := Lib.hid (HX0.out.kept hw (.inl (by omega)))
  replace HX1 := Lib.hid (HX1.out.kept hw (.inl (by omega)))
  replace HW := Lib.hid (HW.out.trans hw)
  replace HC := Lib.hid hc
  clear hc hw
  have z_0_0 := HX0.out.cell (i := 0) rfl
  have z_0_1 := HX0.out.cell (i := 1) rfl
  have z_0_2 := HX0.out.cell (i := 2) rfl
  have z_1_0 := HX1.out.cell (i := 0) rfl
  have z_1_1 := HX1.out.cell (i := 1) rfl
  have lt_HX0 := HX0.out.lt
  have lt_HX1 := HX1.out.lt
  obtain ⟨V2, hV⟩ : ∃ V, V = u1.alloc (.cells #[.int .i64 P, .int .i64 Q, .int .i64 G] 39) := ⟨_, rfl⟩
  have hbV : Below u1.heap.size u1 V2 := by rw [hV]; (repeat (first | exact Below.refl _ _ | assumption | refine Below.drew ?_ | refine Below.alloc ?_ (by first | (simp; done) | (simp; omega)) _ | refine Below.setCell ?_ (by first | (simp; done) | (simp; omega)) _))
  have HZ1 : Hid (BoxN V2 u1.heap.size 39 [.int .i64 P, .int .i64 Q, .int .i64 G]) := by unfold Hid; rw [hV]; have h := (BoxN.new u1 [.int .i64 P, .int .i64 Q, .int .i64 G] 39); simpa using h
  have hgc : g < u1.heap.size := HC.out.lt
  go_wp2_with fail
  rw [← hV]
  have hsV2 : V2.heap.size = u1.heap.size + 1 := by rw [hV]; simp
  clear hV hgc
  replace HX0 := Lib.hid (HX0.out.below hbV)
  replace HX1 := Lib.hid (HX1.out.below hbV)
  replace HW := Lib.hid (HW.out.trans (Within.of_below hbV))
  replace HC := Lib.hid (HC.out.keep hbV)
  clear hbV
  clear z_0_0 z_0_1 z_0_2 z_1_0 z_1_1
  clear lt_HX0
  clear lt_HX1
  have z_0_0 := HX0.out.cell (i := 0) rfl
  have z_0_1 := HX0.out.cell (i := 1) rfl
  have z_0_2 := HX0.out.cell (i := 2) rfl
  have z_1_0 := HX1.out.cell (i := 0) rfl
  have z_1_1 := HX1.out.cell (i := 1) rfl
  have z_2_0 := HZ1.out.cell (i := 0) rfl
  have z_2_1 := HZ1.out.cell (i := 1) rfl
  have z_2_2 := HZ1.out.cell (i := 2) rfl
  refine wp_region_noPanic ?_
  refine wp_region_Q (Within g (g + 1)) (DrawS U V2 g _ 1000000000 (fun w' => w'.cell? ⟨u1.heap.size, 0, none⟩ = some (.int .i64 P) ∧ w'.cell? ⟨u1.heap.size, 1, none⟩ = some (.int .i64 Q) ∧ w'.cell? ⟨u1.heap.size, 2, none⟩ = some (.int .i64 G))) 12 [(0, []), (1, []), (2, []), (3, [1, 0]), (4, []), (5, []), (6, [1, 0])] [7, 8, 9] (by kernel_rfl) (by kernel_rfl) (by kernel_rfl) rfl (fun _ _ _ _ h => h) (DrawS.good _ _ _ _ _ _) ⟨(Within.refl _ _ _).drew, by simpa using HC.out.keep (Below.refl _ _).drew, ⟨box_at z_2_0 (Below.refl _ _).drew, box_at z_2_1 (Below.refl _ _).drew, box_at z_2_2 (Below.refl _ _).drew⟩⟩ ?_
  simp only [pickP, pickN, List.getElem?_cons_zero, List.getElem?_cons_succ]
  -- 0: load 39 t6
  refine' chainQ_read (DrawS.good _ _ _ _ _ _) (d := (some 12)) _ rfl rfl (fun m w' hm' hS' => ?_) ?_; rotate_left
  · simp only [lookP, allP, Act.put, List.getElem?_cons_zero, List.getElem?_cons_succ, List.setIfInBounds_toArray, List.set_cons_zero, List.set_cons_succ]
    (try dsimp only [DrawS] at hS')
    go_simp
    (try with_reducible rfl)
  -- 1: move t5
  refine' chainQ_read (DrawS.good _ _ _ _ _ _) (d := (some 13)) _ rfl rfl (fun m w' hm' hS' => ?_) ?_; rotate_left
  · simp only [lookP, allP, Act.put, List.getElem?_cons_zero, List.getElem?_cons_succ, List.setIfInBounds_toArray, List.set_cons_zero, List.set_cons_succ]
    (try dsimp only [DrawS] at hS')
    go_simp
    (try with_reducible rfl)
  -- 2: load 39 t6
  refine' chainQ_read (DrawS.good _ _ _ _ _ _) (d := (some 14)) _ rfl rfl (fun m w' hm' hS' => ?_) ?_; rotate_left
  · simp only [lookP, allP, Act.put, List.getElem?_cons_zero, List.getElem?_cons_succ, List.setIfInBounds_toArray, List.set_cons_zero, List.set_cons_succ]
    (try dsimp only [DrawS] at hS')
    go_simp
    (try with_reducible rfl)
  -- 3: call { callee := value (func 146), args := #[t13, t14], argTypes := #[167, 39] }
  refine chainQ_do (d := (some 15)) (fun v u => ∃ (xq3 : Int) (yq3 : Int), v = (.agg #[.int .i64 xq3, .int .i64 yq3]) ∧ ((-10 ≤ xq3 ∧ xq3 ≤ 2000000010) ∧ (-10 ≤ yq3 ∧ yq3 ≤ 2000000010))) (fun v w1 w2 hw h => h) rfl rfl (fun m w' hm' hS' => ?_) ?_
  · simp only [lookP, allP, Act.put, List.getElem?_cons_zero, List.getElem?_cons_succ, List.setIfInBounds_toArray, List.set_cons_zero, List.set_cons_succ]
    intro K hK
    replace hm' : m < 7 := hm'
    go_simp
    go_at_call 146
    refine (spec_anyCipher U g _ P Q G _ hS'.2.1 (hS'.1.belowOf (HW.out.belowOf HUC.out (Nat.le_of_eq HUS.out)) (by have := HUS.out; omega)) (by omega) HGR.out).mono ?_
    rintro e u ⟨⟨xq3, yq3, rfl, ⟨xq3l, xq3u⟩, ⟨yq3l, yq3u⟩⟩, hc, hw⟩
    exact hK.out _ _ hw ⟨hS'.1.trans hw, hc.mono (by omega), ⟨within_at (hS'.1.trans hw) z_2_0 (.inr (by omega)), within_at (hS'.1.trans hw) z_2_1 (.inr (by omega)), within_at (hS'.1.trans hw) z_2_2 (.inr (by omega))⟩⟩ ⟨xq3, yq3, rfl, ⟨⟨xq3l, xq3u⟩, ⟨yq3l, yq3u⟩⟩⟩
  -- 4: move t5
  refine' chainQ_read (DrawS.good _ _ _ _ _ _) (d := (some 16)) _ rfl rfl (fun m w' hm' hS' => ?_) ?_; rotate_left
  · simp only [lookP, allP, Act.put, List.getElem?_cons_zero, List.getElem?_cons_succ, List.setIfInBounds_toArray, List.set_cons_zero, List.set_cons_succ]
    (try dsimp only [DrawS] at hS')
    go_simp
    (try with_reducible rfl)
  -- 5: load 39 t6
  refine' chainQ_read (DrawS.good _ _ _ _ _ _) (d := (some 17)) _ rfl rfl (fun m w' hm' hS' => ?_) ?_; rotate_left
  · simp only [lookP, allP, Act.put, List.getElem?_cons_zero, List.getElem?_cons_succ, List.setIfInBounds_toArray, List.set_cons_zero, List.set_cons_succ]
    (try dsimp only [DrawS] at hS')
    go_simp
    (try with_reducible rfl)
  -- 6: call { callee := value (func 147), args := #[t16, t17], argTypes := #[167, 39] }
  refine chainQ_do (d := (some 18)) (fun v u => ∃ (xq6 : Int), v = (.int .i64 xq6) ∧ (-10 ≤ xq6 ∧ xq6 ≤ 2000000010)) (fun v w1 w2 hw h => h) rfl rfl (fun m w' hm' hS' => ?_) ?_
  · simp only [lookP, allP, Act.put, List.getElem?_cons_zero, List.getElem?_cons_succ, List.setIfInBounds_toArray, List.set_cons_zero, List.set_cons_succ]
    intro K hK
    replace hm' : m < 7 := hm'
    go_simp
    go_at_call 147
    refine (spec_anyExpo U g _ P Q G _ hS'.2.1 (hS'.1.belowOf (HW.out.belowOf HUC.out (Nat.le_of_eq HUS.out)) (by have := HUS.out; omega)) (by omega) HGR.out).mono ?_
    rintro e u ⟨⟨xq6, rfl, xq6l, xq6u⟩, hc, hw⟩
    exact hK.out _ _ hw ⟨hS'.1.trans hw, hc.mono (by omega), ⟨within_at (hS'.1.trans hw) z_2_0 (.inr (by omega)), within_at (hS'.1.trans hw) z_2_1 (.inr (by omega)), within_at (hS'.1.trans hw) z_2_2 (.inr (by omega))⟩⟩ ⟨xq6, rfl, ⟨xq6l, xq6u⟩⟩
  refine chainQ_nil (fun u3 hS' => ?_)
  simp only [allP, Act.put, List.setIfInBounds_toArray, List.set_cons_zero, List.set_cons_succ]
  intro x6 hx6
  intro x3 hx3
  replace hS' : DrawS U V2 g _ 1000000000 _ 7 u3 := hS'
  obtain ⟨hw, hc, hC⟩ := hS'
  obtain ⟨xq3, yq3, rfl, ⟨xq3l, xq3u⟩, yq3l, yq3u⟩ := hx3
  obtain ⟨xq6, rfl, xq6l, xq6u⟩ := hx6
  have hsz3 := hw.size
  replace HX0 := Lib.hid (HX0.out.kept hw (.inl (by omega)))
  replace HX1 := Lib.hid (HX1.out.kept hw (.inl (by omega)))
  replace HZ1 := Lib.hid (HZ1.out.kept hw (.inr (by omega)))
  replace HW := Lib.hid (HW.out.trans hw)
  replace HC := Lib.hid hc
  clear hc hw hC
  clear z_0_0 z_0_1 z_0_2 z_1_0 z_1_1 z_2_0 z_2_1 z_2_2
  have r_HX0_0 := HX0.out.cell (i := 0) rfl
  have r_HX0_1 := HX0.out.cell (i := 1) rfl
  have r_HX0_2 := HX0.out.cell (i := 2) rfl
  have fr_HX0 := fun j => HX0.out.frozen j
  have r_HX1_0 := HX1.out.cell (i := 0) rfl
  have r_HX1_1 := HX1.out.cell (i := 1) rfl
  have fr_HX1 := fun j => HX1.out.frozen j
  go_wp2_with fail
  refine NoPanic.normal ?_
  have FHX0 := Lib.hid (((((HX0.out.set 0 (.int .i64 P)).set 1 (.int .i64 Q)).set 2 (.int .i64 G)).other (b' := w.heap.size + 1) (by omega) 0 (.int .i64 xq3)).other (b' := w.heap.size + 1) (by omega) 1 (.int .i64 yq3))
  have FHX1 := Lib.hid (((((HX1.out.other (b' := w.heap.size) (by omega) 0 (.int .i64 P)).other (b' := w.heap.size) (by omega) 1 (.int .i64 Q)).other (b' := w.heap.size) (by omega) 2 (.int .i64 G)).set 0 (.int .i64 xq3)).set 1 (.int .i64 yq3))
  clear r_HX0_0 r_HX0_1 r_HX0_2 fr_HX0 r_HX1_0 r_HX1_1 fr_HX1
  have t_HX0_0 := FHX0.out.cell (i := 0) rfl
  have t_HX0_1 := FHX0.out.cell (i := 1) rfl
  have t_HX0_2 := FHX0.out.cell (i := 2) rfl
  have t_HX1_0 := FHX1.out.cell (i := 0) rfl
  have t_HX1_1 := FHX1.out.cell (i := 1) rfl
  try (go_wp2_with fail)
  have HYS := Lib.hid ((((((Within.refl w.heap.size (w.heap.size + 2) u3).setCell (b := w.heap.size) (by omega) (by omega) 0 (.int .i64 P)).setCell (b := w.heap.size) (by omega) (by omega) 1 (.int .i64 Q)).setCell (b := w.heap.size) (by omega) (by omega) 2 (.int .i64 G)).setCell (b := w.heap.size + 1) (by omega) (by omega) 0 (.int .i64 xq3)).setCell (b := w.heap.size + 1) (by omega) (by omega) 1 (.int .i64 yq3))
  refine bodyPost_ret (v := .tuple #[.agg #[.int .i64 P, .int .i64 Q, .int .i64 G], .agg #[.int .i64 xq3, .int .i64 yq3], .int .i64 xq6]) (by simp [results, Try.results30, go_sem, t_HX0_0, t_HX0_1, t_HX0_2, t_HX1_0, t_HX1_1]) rfl ⟨⟨_, _, _, _, _, _, rfl, HGR.out, ⟨⟨by omega, by omega⟩, ⟨by omega, by omega⟩⟩, ⟨by omega, by omega⟩⟩, ((((((HW.out.belowOf HBW.out (by omega)).setCell (p := ⟨w.heap.size, 0, none⟩) (by show w.heap.size ≤ w.heap.size; omega) (.int .i64 P)).setCell (p := ⟨w.heap.size, 1, none⟩) (by show w.heap.size ≤ w.heap.size; omega) (.int .i64 Q)).setCell (p := ⟨w.heap.size, 2, none⟩) (by show w.heap.size ≤ w.heap.size; omega) (.int .i64 G)).setCell (p := ⟨w.heap.size + 1, 0, none⟩) (by show w.heap.size ≤ w.heap.size + 1; omega) (.int .i64 xq3)).setCell (p := ⟨w.heap.size + 1, 1, none⟩) (by show w.heap.size ≤ w.heap.size + 1; omega) (.int .i64 yq3))⟩
end Go.Proofs.Ytboahnklilmdpaa
