/- Draws: casts (printed by gen_drv.py). -/
import Derived.Test.YtboahnklilmdpaaDrBV
import Derived.Test.YtboahnklilmdpaaBgV
import Derived.Test.YtboahnklilmdpaaRegPV
import Derived.Test.YtboahnklilmdpaaBaV
import Derived.Test.YtboahnklilmdpaaBmV
namespace Go.Proofs.Ytboahnklilmdpaa
open Go.RowKit
set_option linter.unusedSimpArgs false
set_option linter.unusedVariables false
set_option maxRecDepth 100000 in
set_option maxHeartbeats 4000000 in
theorem spec_DrawCastVoteS (v : Value) (w : World) (h : Bytes w v) :
    Calls Try.prog 69 #[v] w fun e w' => (∃ (P : Int) (Q : Int) (G : Int) (xr1 : Int) (xr2 : Int) (xr3 : Int) (vr4 : Value) (lr4 : List Int), e = .returned (.tuple #[.agg #[.int .i64 P, .int .i64 Q, .int .i64 G], .int .i64 xr1, .int .i64 xr2, .int .i64 xr3, vr4]) ∧ GrB ⟨P, Q, G⟩ ∧ (-10 ≤ xr1 ∧ xr1 ≤ 2000000010) ∧ (-10 ≤ xr2 ∧ xr2 ≤ 2000000010) ∧ (-10 ≤ xr3 ∧ xr3 ≤ 2000000010) ∧ (Since w.heap.size w' (fun z => Ints z vr4 lr4) ∧ lr4.length ≤ 1001)) ∧ Below w.heap.size w w' := by
  obtain ⟨a, m, c, rfl, hk1, hk2, hv⟩ := h
  have HY : Hid (Bytes w (.slice a m c)) := ⟨a, m, c, rfl, hk1, hk2, hv⟩
  clear hv
  unfold maxLen at hk2
  obtain ⟨U, hU⟩ : ∃ U, U = w.alloc (.cells #[.int .i64 0, .int .i64 0, .int .i64 0] 39) := ⟨_, rfl⟩
  have hbU : Below w.heap.size w U := by rw [hU]; (repeat (first | exact Below.refl _ _ | assumption | refine Below.drew ?_ | refine Below.alloc ?_ (by first | (simp; done) | (simp; omega)) _ | refine Below.setCell ?_ (by first | (simp; done) | (simp; omega)) _))
  have HX0 : Hid (BoxN U w.heap.size 39 [.int .i64 0, .int .i64 0, .int .i64 0]) := by unfold Hid; rw [hU]; have h := (BoxN.new w [.int .i64 0, .int .i64 0, .int .i64 0] 39); simpa using h
  have hsU : U.heap.size = w.heap.size + 1 := by rw [hU]; simp
  obtain ⟨W, hW⟩ : ∃ W, W = U.alloc (.cells #[.slice a m c, .int .i64 0, .int .u64 0] 170) := ⟨_, rfl⟩
  have HC : Hid (Cur U W U.heap.size 0) := by unfold Hid; rw [hW]; exact Cur.new U (HY.out.below hbU)
  have hbW : Below U.heap.size U W := by rw [hW]; exact (Below.refl _ _).alloc (Nat.le_refl _) _
  have HBW := Lib.hid (Below.next hbU hbW)
  have HUB := Lib.hid hbW
  replace HX0 := Lib.hid (HX0.out.below hbW)
  obtain ⟨g, hg⟩ : ∃ g, g = U.heap.size := ⟨_, rfl⟩
  have HSU : Hid (w.heap.size + 1 = g) := by unfold Hid; rw [hg, hsU]
  have HWS : Hid (W.heap.size = g + 1) := by unfold Hid; rw [hW, hg]; simp
  go_enter Try.func69, Try.ntmps69
  go_wp2_with fail
  rw [← hU, ← hW]
  rw [HSU.out]
  rw [← hg] at HC HUB
  have HUS : Hid (U.heap.size = g) := hg.symm
  have hwg : w.heap.size + 1 = g := HSU.out
  have hsW := HWS.out
  have HW := Lib.hid (Within.refl g (g + 1) W)
  have HUC : Hid (Below U.heap.size U W) := by unfold Hid; rw [HUS.out]; exact HUB.out
  clear hU hW hbU hbW hsU hg
  have z_0_0 := HX0.out.cell (i := 0) rfl
  have z_0_1 := HX0.out.cell (i := 1) rfl
  have z_0_2 := HX0.out.cell (i := 2) rfl
  try (go_wp2_with fail)
  clear z_0_0 z_0_1 z_0_2
  refine (spec_anyGroup U g _ _ HC.out (HW.out.belowOf HUC.out (Nat.le_of_eq HUS.out)) (by omega)).mono ?_
  rintro e u1 ⟨⟨P, Q, G, rfl, P1, Q1, G1⟩, hc, hw⟩
  have HGR : Hid (GrB ⟨P, Q, G⟩) := ⟨P1, Q1, G1⟩
  clear P1 Q1 G1
  have hsz1 := hw.size
  replace HX0 := Lib.hid (HX0.out.kept hw (.inl (by omega)))
  replace HW := Lib.hid (HW.out.trans hw)
  replace HC := Lib.hid hc
  clear hc hw
  have z_0_0 := HX0.out.cell (i := 0) rfl
  have z_0_1 := HX0.out.cell (i := 1) rfl
  have z_0_2 := HX0.out.cell (i := 2) rfl
  have lt_HX0 := HX0.out.lt
  obtain ⟨V2, hV⟩ : ∃ V, V = u1.alloc (.cells #[.int .i64 P, .int .i64 Q, .int .i64 G] 39) := ⟨_, rfl⟩
  have hbV : Below u1.heap.size u1 V2 := by rw [hV]; (repeat (first | exact Below.refl _ _ | assumption | refine Below.drew ?_ | refine Below.alloc ?_ (by first | (simp; done) | (simp; omega)) _ | refine Below.setCell ?_ (by first | (simp; done) | (simp; omega)) _))
  have HZ1 : Hid (BoxN V2 u1.heap.size 39 [.int .i64 P, .int .i64 Q, .int .i64 G]) := by unfold Hid; rw [hV]; have h := (BoxN.new u1 [.int .i64 P, .int .i64 Q, .int .i64 G] 39); simpa using h
  have hgc : g < u1.heap.size := HC.out.lt
  go_wp2_with fail
  rw [← hV]
  have hsV2 : V2.heap.size = u1.heap.size + 1 := by rw [hV]; simp
  clear hV hgc
  replace HX0 := Lib.hid (HX0.out.below hbV)
  replace HW := Lib.hid (HW.out.trans (Within.of_below hbV))
  replace HC := Lib.hid (HC.out.keep hbV)
  clear hbV
  clear z_0_0 z_0_1 z_0_2
  clear lt_HX0
  have z_0_0 := HX0.out.cell (i := 0) rfl
  have z_0_1 := HX0.out.cell (i := 1) rfl
  have z_0_2 := HX0.out.cell (i := 2) rfl
  have z_1_0 := HZ1.out.cell (i := 0) rfl
  have z_1_1 := HZ1.out.cell (i := 1) rfl
  have z_1_2 := HZ1.out.cell (i := 2) rfl
  refine wp_region_noPanic ?_
  refine wp_region_Q (Within g (g + 1)) (DrawS U V2 g _ 1000000000 (fun w' => w'.cell? ⟨u1.heap.size, 0, none⟩ = some (.int .i64 P) ∧ w'.cell? ⟨u1.heap.size, 1, none⟩ = some (.int .i64 Q) ∧ w'.cell? ⟨u1.heap.size, 2, none⟩ = some (.int .i64 G))) 20 [(0, []), (1, []), (2, []), (3, [1, 0]), (4, []), (5, []), (6, [1, 0]), (7, []), (8, []), (9, [1, 0]), (10, []), (11, []), (12, [1, 0])] [13, 14, 15, 16, 17] (by kernel_rfl) (by kernel_rfl) (by kernel_rfl) rfl (fun _ _ _ _ h => h) (DrawS.good _ _ _ _ _ _) ⟨(Within.refl _ _ _).drew, by simpa using HC.out.keep (Below.refl _ _).drew, ⟨box_at z_1_0 (Below.refl _ _).drew, box_at z_1_1 (Below.refl _ _).drew, box_at z_1_2 (Below.refl _ _).drew⟩⟩ ?_
  simp only [pickP, pickN, List.getElem?_cons_zero, List.getElem?_cons_succ]
  iterate 3 (refine' chainQ_read (DrawS.good _ _ _ _ _ _) _ rfl rfl (fun m w' hm' hS' => ?_) ?_; rotate_left; · (simp only [lookP, allP, Act.put, List.getElem?_cons_zero, List.getElem?_cons_succ, List.setIfInBounds_toArray, List.set_cons_zero, List.set_cons_succ]; (try dsimp only [DrawS] at hS'); go_simp; (try with_reducible rfl)))
  -- 3: call { callee := value (func 135), args := #[t15, t16], argTypes := #[167, 39] }
  refine chainQ_do (d := (some 17)) (fun v u => ∃ (xq3 : Int), v = (.int .i64 xq3) ∧ (-10 ≤ xq3 ∧ xq3 ≤ 2000000010)) (fun v w1 w2 hw h => h) rfl rfl (fun m w' hm' hS' => ?_) ?_
  · simp only [lookP, allP, Act.put, List.getElem?_cons_zero, List.getElem?_cons_succ, List.setIfInBounds_toArray, List.set_cons_zero, List.set_cons_succ]
    intro K hK
    replace hm' : m < 13 := hm'
    go_simp
    go_at_call 135
    refine (spec_anyElement U g _ P Q G _ hS'.2.1 (hS'.1.belowOf (HW.out.belowOf HUC.out (Nat.le_of_eq HUS.out)) (by have := HUS.out; omega)) (by omega) HGR.out).mono ?_
    rintro e u ⟨⟨xq3, rfl, xq3l, xq3u⟩, hc, hw⟩
    exact hK.out _ _ hw ⟨hS'.1.trans hw, hc.mono (by omega), ⟨within_at (hS'.1.trans hw) z_1_0 (.inr (by omega)), within_at (hS'.1.trans hw) z_1_1 (.inr (by omega)), within_at (hS'.1.trans hw) z_1_2 (.inr (by omega))⟩⟩ ⟨xq3, rfl, ⟨xq3l, xq3u⟩⟩
  iterate 2 (refine' chainQ_read (DrawS.good _ _ _ _ _ _) _ rfl rfl (fun m w' hm' hS' => ?_) ?_; rotate_left; · (simp only [lookP, allP, Act.put, List.getElem?_cons_zero, List.getElem?_cons_succ, List.setIfInBounds_toArray, List.set_cons_zero, List.set_cons_succ]; (try dsimp only [DrawS] at hS'); go_simp; (try with_reducible rfl)))
  -- 6: call { callee := value (func 135), args := #[t18, t19], argTypes := #[167, 39] }
  refine chainQ_do (d := (some 20)) (fun v u => ∃ (xq6 : Int), v = (.int .i64 xq6) ∧ (-10 ≤ xq6 ∧ xq6 ≤ 2000000010)) (fun v w1 w2 hw h => h) rfl rfl (fun m w' hm' hS' => ?_) ?_
  · simp only [lookP, allP, Act.put, List.getElem?_cons_zero, List.getElem?_cons_succ, List.setIfInBounds_toArray, List.set_cons_zero, List.set_cons_succ]
    intro K hK
    replace hm' : m < 13 := hm'
    go_simp
    go_at_call 135
    refine (spec_anyElement U g _ P Q G _ hS'.2.1 (hS'.1.belowOf (HW.out.belowOf HUC.out (Nat.le_of_eq HUS.out)) (by have := HUS.out; omega)) (by omega) HGR.out).mono ?_
    rintro e u ⟨⟨xq6, rfl, xq6l, xq6u⟩, hc, hw⟩
    exact hK.out _ _ hw ⟨hS'.1.trans hw, hc.mono (by omega), ⟨within_at (hS'.1.trans hw) z_1_0 (.inr (by omega)), within_at (hS'.1.trans hw) z_1_1 (.inr (by omega)), within_at (hS'.1.trans hw) z_1_2 (.inr (by omega))⟩⟩ ⟨xq6, rfl, ⟨xq6l, xq6u⟩⟩
  iterate 2 (refine' chainQ_read (DrawS.good _ _ _ _ _ _) _ rfl rfl (fun m w' hm' hS' => ?_) ?_; rotate_left; · (simp only [lookP, allP, Act.put, List.getElem?_cons_zero, List.getElem?_cons_succ, List.setIfInBounds_toArray, List.set_cons_zero, List.set_cons_succ]; (try dsimp only [DrawS] at hS'); go_simp; (try with_reducible rfl)))
  -- 9: call { callee := value (func 147), args := #[t21, t22], argTypes := #[167, 39] }
  refine chainQ_do (d := (some 23)) (fun v u => ∃ (xq9 : Int), v = (.int .i64 xq9) ∧ (-10 ≤ xq9 ∧ xq9 ≤ 2000000010)) (fun v w1 w2 hw h => h) rfl rfl (fun m w' hm' hS' => ?_) ?_
  · simp only [lookP, allP, Act.put, List.getElem?_cons_zero, List.getElem?_cons_succ, List.setIfInBounds_toArray, List.set_cons_zero, List.set_cons_succ]
    intro K hK
    replace hm' : m < 13 := hm'
    go_simp
    go_at_call 147
    refine (spec_anyExpo U g _ P Q G _ hS'.2.1 (hS'.1.belowOf (HW.out.belowOf HUC.out (Nat.le_of_eq HUS.out)) (by have := HUS.out; omega)) (by omega) HGR.out).mono ?_
    rintro e u ⟨⟨xq9, rfl, xq9l, xq9u⟩, hc, hw⟩
    exact hK.out _ _ hw ⟨hS'.1.trans hw, hc.mono (by omega), ⟨within_at (hS'.1.trans hw) z_1_0 (.inr (by omega)), within_at (hS'.1.trans hw) z_1_1 (.inr (by omega)), within_at (hS'.1.trans hw) z_1_2 (.inr (by omega))⟩⟩ ⟨xq9, rfl, ⟨xq9l, xq9u⟩⟩
  iterate 2 (refine' chainQ_read (DrawS.good _ _ _ _ _ _) _ rfl rfl (fun m w' hm' hS' => ?_) ?_; rotate_left; · (simp only [lookP, allP, Act.put, List.getElem?_cons_zero, List.getElem?_cons_succ, List.setIfInBounds_toArray, List.set_cons_zero, List.set_cons_succ]; (try dsimp only [DrawS] at hS'); go_simp; (try with_reducible rfl)))
  -- 12: call { callee := value (func 136), args := #[t24, t25, const (int i64 4)], argTypes := #[167, 39, 3] }
  refine chainQ_do (d := (some 26)) (fun v u => ∃ (vq12 : Value) (lq12 : List Int), v = vq12 ∧ (Since V2.heap.size u (fun z => Ints z vq12 lq12) ∧ lq12.length ≤ 1001)) (fun v w1 w2 hw h => by obtain ⟨z0, z1, h3, h4⟩ := h; exact ⟨z0, z1, h3, ⟨(h4.1).within hw (by omega), h4.2⟩⟩) rfl rfl (fun m w' hm' hS' => ?_) ?_
  · simp only [lookP, allP, Act.put, List.getElem?_cons_zero, List.getElem?_cons_succ, List.setIfInBounds_toArray, List.set_cons_zero, List.set_cons_succ]
    intro K hK
    replace hm' : m < 13 := hm'
    go_simp
    go_at_call 136
    refine (spec_anyCoins U g _ P Q G 4 _ hS'.2.1 (hS'.1.belowOf (HW.out.belowOf HUC.out (Nat.le_of_eq HUS.out)) (by have := HUS.out; omega)) (by omega) HGR.out (by omega)).mono ?_
    rintro e u ⟨⟨vq12, lq12, rfl, hsq12, hlq12⟩, hc, hw⟩
    exact hK.out _ _ hw ⟨hS'.1.trans hw, hc.mono (by omega), ⟨within_at (hS'.1.trans hw) z_1_0 (.inr (by omega)), within_at (hS'.1.trans hw) z_1_1 (.inr (by omega)), within_at (hS'.1.trans hw) z_1_2 (.inr (by omega))⟩⟩ ⟨vq12, lq12, rfl, ⟨(hsq12.mono (by have := hS'.1.size; omega)), by omega⟩⟩
  refine chainQ_nil (fun u3 hS' => ?_)
  simp only [allP, Act.put, List.setIfInBounds_toArray, List.set_cons_zero, List.set_cons_succ]
  intro x12 hx12
  intro x9 hx9
  intro x6 hx6
  intro x3 hx3
  replace hS' : DrawS U V2 g _ 1000000000 _ 13 u3 := hS'
  obtain ⟨hw, hc, hC⟩ := hS'
  obtain ⟨xq3, rfl, xq3l, xq3u⟩ := hx3
  obtain ⟨xq6, rfl, xq6l, xq6u⟩ := hx6
  obtain ⟨xq9, rfl, xq9l, xq9u⟩ := hx9
  obtain ⟨vq12, lq12, rfl, hsq12, hlq12⟩ := hx12
  have hsz3 := hw.size
  replace HX0 := Lib.hid (HX0.out.kept hw (.inl (by omega)))
  replace HZ1 := Lib.hid (HZ1.out.kept hw (.inr (by omega)))
  replace HW := Lib.hid (HW.out.trans hw)
  replace HC := Lib.hid hc
  clear hc hw hC
  clear z_0_0 z_0_1 z_0_2 z_1_0 z_1_1 z_1_2
  have HLq12 := Lib.hid hsq12
  obtain ⟨aq12, nq12, cq12, rfl⟩ := hsq12.here.shape
  have hnq12 : nq12 ≤ 1001 := by have h1 := hsq12.here.len; omega
  have HEq12 := Lib.hid hsq12.here.len
  clear hsq12
  have r_HX0_0 := HX0.out.cell (i := 0) rfl
  have r_HX0_1 := HX0.out.cell (i := 1) rfl
  have r_HX0_2 := HX0.out.cell (i := 2) rfl
  have fr_HX0 := fun j => HX0.out.frozen j
  go_wp2_with fail
  refine NoPanic.normal ?_
  have FHX0 := Lib.hid (((HX0.out.set 0 (.int .i64 P)).set 1 (.int .i64 Q)).set 2 (.int .i64 G))
  clear r_HX0_0 r_HX0_1 r_HX0_2 fr_HX0
  have t_HX0_0 := FHX0.out.cell (i := 0) rfl
  have t_HX0_1 := FHX0.out.cell (i := 1) rfl
  have t_HX0_2 := FHX0.out.cell (i := 2) rfl
  try (go_wp2_with fail)
  have HYS := Lib.hid ((((Within.refl w.heap.size (w.heap.size + 1) u3).setCell (b := w.heap.size) (by omega) (by omega) 0 (.int .i64 P)).setCell (b := w.heap.size) (by omega) (by omega) 1 (.int .i64 Q)).setCell (b := w.heap.size) (by omega) (by omega) 2 (.int .i64 G))
  refine bodyPost_ret (v := .tuple #[.agg #[.int .i64 P, .int .i64 Q, .int .i64 G], .int .i64 xq3, .int .i64 xq6, .int .i64 xq9, .slice aq12 nq12 cq12]) (by simp [results, Try.results69, go_sem, t_HX0_0, t_HX0_1, t_HX0_2]) rfl ⟨⟨_, _, _, _, _, _, _, _, rfl, HGR.out, ⟨by omega, by omega⟩, ⟨by omega, by omega⟩, ⟨by omega, by omega⟩, ⟨(HLq12.out.within HYS.out (by omega)).mono (by omega), by have := HEq12.out; omega⟩⟩, ((((HW.out.belowOf HBW.out (by omega)).setCell (p := ⟨w.heap.size, 0, none⟩) (by show w.heap.size ≤ w.heap.size; omega) (.int .i64 P)).setCell (p := ⟨w.heap.size, 1, none⟩) (by show w.heap.size ≤ w.heap.size; omega) (.int .i64 Q)).setCell (p := ⟨w.heap.size, 2, none⟩) (by show w.heap.size ≤ w.heap.size; omega) (.int .i64 G))⟩
theorem spec_DrawCastVote (v : Value) (w : World) (h : Bytes w v) :
    Calls Try.prog 69 #[v] w fun e w' => (∃ (P : Int) (Q : Int) (G : Int) (xr1 : Int) (xr2 : Int) (xr3 : Int) (vr4 : Value) (lr4 : List Int), e = .returned (.tuple #[.agg #[.int .i64 P, .int .i64 Q, .int .i64 G], .int .i64 xr1, .int .i64 xr2, .int .i64 xr3, vr4]) ∧ GrB ⟨P, Q, G⟩ ∧ (-10 ≤ xr1 ∧ xr1 ≤ 2000000010) ∧ (-10 ≤ xr2 ∧ xr2 ≤ 2000000010) ∧ (-10 ≤ xr3 ∧ xr3 ≤ 2000000010) ∧ (Ints w' vr4 lr4 ∧ lr4.length ≤ 1001)) ∧ Below w.heap.size w w' := by
  refine (spec_DrawCastVoteS v w h).mono ?_
  rintro e w' ⟨⟨P, Q, G, a, b, c, d, f, rfl, h1, h2, h3, h4, ⟨h5, h6⟩⟩, hb⟩
  exact ⟨⟨P, Q, G, a, b, c, d, f, rfl, h1, h2, h3, h4, ⟨h5.here, h6⟩⟩, hb⟩
end Go.Proofs.Ytboahnklilmdpaa
namespace Go.Proofs.Ytboahnklilmdpaa
open Go.RowKit
set_option linter.unusedSimpArgs false
set_option linter.unusedVariables false

theorem small_64 {x : Int} (h : Small x) : I64 x := ⟨by have := h.1; omega, by have := h.2; omega⟩
theorem powE_small {gr : GroupD} (hg : OkG gr) (x e : Int) : Small (powE gr x e) := by
  have := powE_bd hg x e; have := hg.p2; exact ⟨by omega, by omega⟩
theorem mulL_small {gr : GroupD} (hg : OkG gr) (l : List Int) : Small (mulL gr l) := by
  have := mulL_bd hg l; have := hg.p2; exact ⟨by omega, by omega⟩
theorem AllSmall.nil : AllSmall [] := fun x hx => by cases hx
theorem AllSmall.cons {x : Int} {l : List Int} (h : Small x) (h' : AllSmall l) : AllSmall (x :: l) := fun y hy => by
  rcases List.mem_cons.1 hy with rfl | hy
  · exact h
  · exact h' y hy
end Go.Proofs.Ytboahnklilmdpaa
namespace Go.Proofs.Ytboahnklilmdpaa
open Go.RowKit
set_option linter.unusedSimpArgs false
set_option linter.unusedVariables false

/-- the k-th power -/
def yE (gr : GroupD) (b : Int) (k : Nat) : Int := powM b k gr.p
theorem yE_add (gr : GroupD) (b : Int) (a d : Nat) (h : yE gr b d = 1) : yE gr b (a + d) = yE gr b a := by
  have h' : b ^ d % gr.p = 1 := h
  show b ^ (a + d) % gr.p = b ^ a % gr.p
  rw [Int.pow_add, ← emod_mul_right, h', Int.mul_one]
theorem yE_mod (gr : GroupD) (b : Int) {d : Nat} (hd : 0 < d) (h : yE gr b d = 1) (j : Nat) : yE gr b j = yE gr b (j % d) := by
  induction j using Nat.strongRecOn with
  | ind j ih =>
    rcases Nat.lt_or_ge j d with hlt | hge
    · rw [Nat.mod_eq_of_lt hlt]
    · have e : j = (j - d) + d := by omega
      have h1 := ih (j - d) (by omega)
      rw [Nat.mod_eq_sub_mod hge, ← h1, ← yE_add gr b (j - d) d h, ← e]
theorem elB_pow {gr : GroupD} {x : Int} (h : elB gr x = true) : powM x gr.q gr.p = 1 := by
  unfold elB at h; simp only [Bool.and_eq_true, beq_iff_eq] at h; exact h.2
end Go.Proofs.Ytboahnklilmdpaa
namespace Go.Proofs.Ytboahnklilmdpaa
open Go.RowKit
set_option linter.unusedSimpArgs false
set_option linter.unusedVariables false

/-- the product of two residues -/
theorem mulT {gr : GroupD} (a b : Int) : mulL gr [a, b] = a * b % gr.p := by
  unfold mulL
  simp only [List.foldl_cons, List.foldl_nil, Int.one_mul]
  rw [emod_mul_left]
theorem elT {gr : GroupD} (hg : OkG gr) {x : Int} (h0 : 0 ≤ x) (h1 : x < gr.p) (h : powM x gr.q gr.p = 1) : elB gr x = true := by
  have hp := hg.p1
  have hq := hg.q1
  have h2 : x ≠ 0 := fun h3 => by
    rw [h3] at h
    unfold powM at h
    obtain ⟨n, hn⟩ : ∃ n, gr.q.toNat = n + 1 := ⟨gr.q.toNat - 1, by omega⟩
    rw [hn, Int.pow_succ, Int.mul_zero] at h
    simp at h
  unfold elB
  rw [h, Bool.and_eq_true, decide_eq_true_iff]
  exact ⟨by omega, rfl⟩
theorem elT_mul {gr : GroupD} (hg : OkG gr) {a b : Int} (ha : elB gr a = true) (hb : elB gr b = true) : elB gr (a * b % gr.p) = true := by
  have hp := hg.p1
  refine elT hg (Int.emod_nonneg _ (by omega)) (Int.emod_lt_of_pos _ (by omega)) ?_
  have h1 := elB_pow ha
  have h2 := elB_pow hb
  unfold powM at h1 h2 ⊢
  rw [emod_pow, Int.mul_pow, Int.mul_emod, h1, h2]
  exact Int.emod_eq_of_lt (by omega) (by omega)
theorem elT_gen {gr : GroupD} (h : goodG gr = true) : elB gr gr.g = true := by
  have hg := goodG_ok h
  refine elT hg (by have := hg.g1; omega) (by have := hg.g2; omega) ?_
  unfold goodG at h
  simp only [Bool.and_eq_true, beq_iff_eq] at h
  exact h.2.2.2.2.2.2
theorem pow_one_mod {a p : Int} (hp : 1 < p) (h : a % p = 1) (k : Nat) : a ^ k % p = 1 := by
  rw [← emod_pow, h, Int.one_pow]
  exact Int.emod_eq_of_lt (by omega) hp
theorem elT_pow {gr : GroupD} (hg : OkG gr) {x : Int} (h : elB gr x = true) (e : Int) : elB gr (powE gr x e) = true := by
  have hp := hg.p1
  obtain ⟨h1, h2⟩ := powE_bd hg x e
  refine elT hg h1 h2 ?_
  have h3 := elB_pow h
  unfold powM at h3
  unfold powE powM
  rw [emod_pow, ← Int.pow_mul, Nat.mul_comm, Int.pow_mul]
  exact pow_one_mod (by omega) h3 _
theorem powE_emod (gr : GroupD) (x e : Int) : powE gr x (e % gr.q) = powE gr x e := by
  unfold powE; rw [Int.emod_emod]
/-- a power of an element goes by the residue of the exponent -/
theorem powE_nat {gr : GroupD} (hg : OkG gr) {x : Int} (h : elB gr x = true) (k : Nat) : powE gr x (k : Int) = x ^ k % gr.p := by
  have hq := hg.q1
  have h1 := elB_pow h
  obtain ⟨d, hd⟩ : ∃ d : Nat, gr.q = d := ⟨gr.q.toNat, by omega⟩
  have h2 : yE gr x d = 1 := by rw [hd] at h1; exact h1
  have h3 := yE_mod gr x (d := d) (by omega) h2 k
  have e1 : ((k : Int) % gr.q) = ((k % d : Nat) : Int) := by rw [hd]; omega
  show powM x ((k : Int) % gr.q) gr.p = x ^ k % gr.p
  rw [e1]
  exact h3.symm
theorem powE_add {gr : GroupD} (hg : OkG gr) {x : Int} (h : elB gr x = true) (a b : Int) : powE gr x (a + b) = powE gr x a * powE gr x b % gr.p := by
  have hq := hg.q1
  have e1 : 0 ≤ a % gr.q := Int.emod_nonneg _ (by omega)
  have e2 : 0 ≤ b % gr.q := Int.emod_nonneg _ (by omega)
  obtain ⟨i, hi⟩ : ∃ i : Nat, a % gr.q = i := ⟨(a % gr.q).toNat, by omega⟩
  obtain ⟨j, hj⟩ : ∃ j : Nat, b % gr.q = j := ⟨(b % gr.q).toNat, by omega⟩
  rw [← powE_emod gr x (a + b), Int.add_emod, hi, hj, powE_emod, ← powE_emod gr x a, ← powE_emod gr x b, hi, hj, powE_nat hg h, powE_nat hg h, show ((i : Int) + (j : Int)) = ((i + j : Nat) : Int) by omega, powE_nat hg h, Int.pow_add, Int.mul_emod]
theorem powE_pow {gr : GroupD} (hg : OkG gr) {x : Int} (h : elB gr x = true) (a b : Int) : powE gr (powE gr x a) b = powE gr x (a * b) := by
  have hq := hg.q1
  have e1 : 0 ≤ a % gr.q := Int.emod_nonneg _ (by omega)
  have e2 : 0 ≤ b % gr.q := Int.emod_nonneg _ (by omega)
  obtain ⟨i, hi⟩ : ∃ i : Nat, a % gr.q = i := ⟨(a % gr.q).toNat, by omega⟩
  obtain ⟨j, hj⟩ : ∃ j : Nat, b % gr.q = j := ⟨(b % gr.q).toNat, by omega⟩
  rw [← powE_emod gr x (a * b), Int.mul_emod, hi, hj, powE_emod, ← powE_emod gr (powE gr x a) b, hj, powE_nat hg (elT_pow hg h a), ← powE_emod gr x a, hi, powE_nat hg h, emod_pow, ← Int.pow_mul, show ((i : Int) * (j : Int)) = ((i * j : Nat) : Int) by rw [Int.natCast_mul], powE_nat hg h]
theorem expT {gr : GroupD} (hg : OkG gr) (a : Int) : expB gr (a % gr.q) = true := by
  have hq := hg.q1
  unfold expB
  rw [decide_eq_true_iff]
  have := Int.emod_nonneg a (show gr.q ≠ 0 by omega)
  have := Int.emod_lt_of_pos a (show 0 < gr.q by omega)
  exact ⟨by omega, by omega⟩
/-- the equation of a proof of an exponent: x^(w + e*s) = x^w * (x^s)^e -/
theorem sigma_eq {gr : GroupD} (hg : OkG gr) {x : Int} (h : elB gr x = true) (w e s : Int) : powE gr x ((w + e * s) % gr.q) = powE gr x w * powE gr (powE gr x s) e % gr.p := by
  rw [powE_emod, powE_add hg h, powE_pow hg h, Int.mul_comm e s]
end Go.Proofs.Ytboahnklilmdpaa
namespace Go.Proofs.Ytboahnklilmdpaa
open Go.RowKit
set_option linter.unusedSimpArgs false
set_option linter.unusedVariables false

/-- what a round of Euclid's algorithm keeps: r and n are multiples of a (by x and y), the coefficients stay below m, a common divisor divides both -/
def EuInv (a m r n x y : Int) : Prop :=
  0 ≤ n ∧ 1 ≤ r ∧ r ≤ m ∧ n ≤ m ∧ (∃ u v : Int, 0 ≤ u ∧ 0 ≤ v ∧ u * n + v * r = m ∧ u ≤ m ∧ v ≤ m ∧ ((x = u ∧ y = -v) ∨ (x = -u ∧ y = v))) ∧ m ∣ x * a - r ∧ m ∣ y * a - n ∧ (∀ d : Int, d ∣ r → d ∣ n → d ∣ m ∧ d ∣ a)
theorem EuInv.start {a m : Int} (h0 : 0 ≤ a) (h1 : a ≤ m) (hm : 1 ≤ m) : EuInv a m m a 0 1 := by
  refine ⟨h0, hm, Int.le_refl _, h1, ⟨0, 1, by omega, by omega, by omega, by omega, hm, .inr ⟨rfl, rfl⟩⟩, ⟨-1, by omega⟩, ⟨0, by omega⟩, fun d h2 h3 => ⟨h2, h3⟩⟩
theorem EuInv.quo {a m r n x y : Int} (h : EuInv a m r n x y) (hn : 0 < n) : 0 ≤ r / n ∧ r / n ≤ m ∧ 0 ≤ r / n * n ∧ r / n * n ≤ r ∧ r - r / n * n < n ∧ 0 ≤ r - r / n * n := by
  obtain ⟨h0, h1, h2, h3, _⟩ := h
  have e1 : 0 ≤ r / n := Int.ediv_nonneg (by omega) (by omega)
  have e2 : r / n * n ≤ r := Int.ediv_mul_le _ (by omega)
  have e3 : r - r / n * n = r % n := by have := Int.emod_def r n; rw [this, Int.mul_comm]
  have e4 := Int.emod_lt_of_pos r hn
  have e5 : r / n ≤ r := Int.ediv_le_self _ (by omega)
  exact ⟨e1, by omega, Int.mul_nonneg e1 (by omega), e2, by omega, by omega⟩
theorem EuInv.step {a m r n x y : Int} (h : EuInv a m r n x y) (hn : 0 < n) : EuInv a m n (r - r / n * n) y (x - r / n * y) ∧ -m ≤ r / n * y ∧ r / n * y ≤ m := by
  obtain ⟨q0, q1, q2, q3, q4, q5⟩ := h.quo hn
  obtain ⟨h0, h1, h2, h3, ⟨u, v, h4, h5, h6, h7, h8, h9⟩, h10, h11, h12⟩ := h
  obtain ⟨q, hq⟩ : ∃ q, r / n = q := ⟨_, rfl⟩
  rw [hq] at q0 q1 q2 q3 q4 q5 ⊢
  have hqv : 0 ≤ q * v := Int.mul_nonneg q0 h5
  have e1 : (u + q * v) * n + v * (r - q * n) = u * n + v * r - (v * (q * n) - q * v * n) := by
    rw [Int.add_mul, Int.mul_sub]; omega
  have e2 : v * (q * n) = q * v * n := by ac_rfl
  have e3 : v * n + (u + q * v) * 0 = v * n := by omega
  -- the coefficients: v and u + q v
  have e4 : v * (r - q * n) + (u + q * v) * n = m := by rw [Int.add_comm, e1, e2]; omega
  have e5 : u + q * v ≤ m := by
    have s1 : 0 ≤ v * (r - q * n) := Int.mul_nonneg h5 q5
    have s2 : (u + q * v) * 1 ≤ (u + q * v) * n := Int.mul_le_mul_of_nonneg_left (by omega) (by omega)
    omega
  have e6 : -m ≤ q * y ∧ q * y ≤ m := by
    rcases h9 with ⟨_, rfl⟩ | ⟨_, rfl⟩
    · rw [Int.mul_neg]; omega
    · omega
  refine ⟨⟨q5, by omega, h3, by omega, ⟨v, u + q * v, h5, by omega, e4, h8, e5, ?_⟩, h11, ?_, fun d d1 d2 => ?_⟩, e6.1, e6.2⟩
  · rcases h9 with ⟨rfl, rfl⟩ | ⟨rfl, rfl⟩
    · exact .inr ⟨rfl, by rw [Int.mul_neg]; omega⟩
    · exact .inl ⟨rfl, by omega⟩
  · obtain ⟨c1, k1⟩ := h10
    obtain ⟨c2, k2⟩ := h11
    refine ⟨c1 - q * c2, ?_⟩
    have s1 : (x - q * y) * a - (r - q * n) = (x * a - r) - q * (y * a - n) := by
      rw [Int.sub_mul, Int.mul_sub, Int.mul_assoc]; omega
    rw [s1, k1, k2, Int.mul_sub]
    congr 1
    ac_rfl
  · refine h12 d ?_ d1
    obtain ⟨c1, k1⟩ := d1
    obtain ⟨c2, k2⟩ := d2
    refine ⟨c2 + q * c1, ?_⟩
    rw [Int.mul_add]
    have s1 : d * (q * c1) = q * n := by rw [k1]; ac_rfl
    omega
theorem Prm.gcd_one {a m r : Int} (hm : Prm m) (h0 : 0 < a) (h1 : a < m) (hr : 1 ≤ r) (h2 : r ∣ m) (h3 : r ∣ a) : r = 1 := by
  by_cases h : r = 1
  · exact h
  · exfalso
    have hra : r ≤ a := Int.le_of_dvd h0 h3
    obtain ⟨c, hc⟩ := h2
    have hc1 : 1 < c := by
      have s0 : 0 < c := by
        apply Int.not_le.1
        intro hle
        have s2 : r * c ≤ r * 0 := Int.mul_le_mul_of_nonneg_left hle (by omega)
        have := hm.1
        omega
      have s1 : c ≠ 1 := fun e => by rw [e] at hc; omega
      omega
    by_cases hle : r * r ≤ m
    · exact hm.2 r (by omega) hle (Int.emod_eq_zero_of_dvd ⟨c, hc⟩)
    · have hcr : c * c ≤ m := by
        have s1 : c ≤ r := by
          apply Int.not_lt.1
          intro hlt
          have : r * r ≤ r * c := Int.mul_le_mul_of_nonneg_left (by omega) (by omega)
          omega
        rw [hc]
        exact Int.mul_le_mul_of_nonneg_right s1 (by omega)
      exact hm.2 c (by omega) hcr (Int.emod_eq_zero_of_dvd ⟨r, by rw [hc, Int.mul_comm]⟩)
/-- the inverse of an exponent, found by Euclid's algorithm -/
theorem EuInv.done {a m r x y : Int} (h : EuInv a m r 0 x y) (hm : Prm m) (h0 : 0 < a) (h1 : a < m) : r = 1 ∧ a * (x % m) % m = 1 := by
  obtain ⟨_, h2, _, _, _, h3, _, h4⟩ := h
  obtain ⟨d1, d2⟩ := h4 r (Int.dvd_refl _) (Int.dvd_zero _)
  have hr := hm.gcd_one h0 h1 h2 d1 d2
  subst hr
  refine ⟨rfl, ?_⟩
  obtain ⟨c, hc⟩ := h3
  have hm2 := hm.1
  rw [emod_mul_right, Int.mul_comm, show x * a = 1 + m * c by omega, Int.add_mul_emod_self_left]
  exact Int.emod_eq_of_lt (by omega) (by omega)
theorem EuInv.ends {a m : Int} (hm : Prm m) (h0 : 0 < a) (h1 : a < m) : ∀ (k : Nat) (r n x y : Int), n.toNat ≤ k → EuInv a m r n x y → ∃ z, a * z % m = 1
  | 0, r, n, x, y, hk, h => by
    have h2 := h.1
    have e : n = 0 := by omega
    rw [e] at h
    exact ⟨_, (h.done hm h0 h1).2⟩
  | k + 1, r, n, x, y, hk, h => by
    have h2 := h.1
    by_cases e : n = 0
    · rw [e] at h
      exact ⟨_, (h.done hm h0 h1).2⟩
    · have h3 := h.quo (by omega)
      have h4 := (h.step (by omega)).1
      exact EuInv.ends hm h0 h1 k _ _ _ _ (by omega) h4
theorem inverse_is {a m : Int} (hm : Prm m) (h0 : 0 < a) (h1 : a < m) : ∃ z, a * z % m = 1 :=
  EuInv.ends hm h0 h1 a.toNat m a 0 1 (Nat.le_refl _) (EuInv.start (by omega) (by omega) (by have := hm.1; omega))
theorem inverse_bd {a m : Int} (hm : Prm m) (h0 : 0 < a) (h1 : a < m) : ∃ z, (0 ≤ z ∧ z < m) ∧ a * z % m = 1 := by
  obtain ⟨z, hz⟩ := inverse_is hm h0 h1
  have := hm.1
  exact ⟨z % m, ⟨Int.emod_nonneg _ (by omega), Int.emod_lt_of_pos _ (by omega)⟩, by rw [emod_mul_right]; exact hz⟩
open Classical in
/-- the inverse of an exponent -/
noncomputable def invQ (a m : Int) : Int := if h : ∃ z, (0 ≤ z ∧ z < m) ∧ a * z % m = 1 then h.choose else 0
theorem invQ_is {a m : Int} (hm : Prm m) (h0 : 0 < a) (h1 : a < m) : (0 ≤ invQ a m ∧ invQ a m < m) ∧ a * invQ a m % m = 1 := by
  have h := inverse_bd hm h0 h1
  unfold invQ
  rw [dif_pos h]
  exact h.choose_spec
theorem invQ_one {a m y : Int} (hm : Prm m) (h0 : 0 < a) (h1 : a < m) (hy : 0 ≤ y ∧ y < m) (h : a * y % m = 1) : y = invQ a m := by
  obtain ⟨hz, hz2⟩ := invQ_is hm h0 h1
  obtain ⟨z, e⟩ : ∃ z, invQ a m = z := ⟨_, rfl⟩
  rw [e] at hz hz2 ⊢
  have e1 : (y * (a * z)) % m = y := by rw [← emod_mul_right, hz2, Int.mul_one]; exact Int.emod_eq_of_lt hy.1 hy.2
  have e2 : (y * (a * z)) % m = z := by
    rw [show y * (a * z) = (a * y) * z by ac_rfl, ← emod_mul_left, h, Int.one_mul]; exact Int.emod_eq_of_lt hz.1 hz.2
  rw [← e1, e2]
theorem EuInv.inv {a m r x y : Int} (h : EuInv a m r 0 x y) (hm : Prm m) (h0 : 0 < a) (h1 : a < m) : r = 1 ∧ x % m = invQ a m := by
  obtain ⟨e1, e2⟩ := h.done hm h0 h1
  exact ⟨e1, invQ_one hm h0 h1 ⟨Int.emod_nonneg _ (by omega), Int.emod_lt_of_pos _ (by omega)⟩ e2⟩
end Go.Proofs.Ytboahnklilmdpaa
/- The struct Proof as a kind (printed by genkind.py): its data, its row, the walks of the laws' helpers. -/

namespace Go.Proofs.Ytboahnklilmdpaa
open Go.RowKit
set_option linter.unusedSimpArgs false
set_option linter.unusedVariables false

structure ProofD where
  c : List Int
  h : List Int
  r : List Int
deriving DecidableEq
end Go.Proofs.Ytboahnklilmdpaa
/- The struct Head as a kind (printed by genkind.py): its data, its row, the walks of the laws' helpers. -/


namespace Go.Proofs.Ytboahnklilmdpaa
open Go.RowKit
set_option linter.unusedSimpArgs false
set_option linter.unusedVariables false

end Go.Proofs.Ytboahnklilmdpaa
/- The struct Entry as a kind (printed by genkind.py): its data, its row, the walks of the laws' helpers. -/


namespace Go.Proofs.Ytboahnklilmdpaa
open Go.RowKit
set_option linter.unusedSimpArgs false
set_option linter.unusedVariables false

end Go.Proofs.Ytboahnklilmdpaa
namespace Go.Proofs.Ytboahnklilmdpaa
open Go.RowKit
set_option linter.unusedSimpArgs false
set_option linter.unusedVariables false

theorem list_two {l : List Int} (h : l.length = 2) : l = [nth l 0, nth l 1] := by
  match l, h with
  | [a, b], _ => rfl
end Go.Proofs.Ytboahnklilmdpaa
