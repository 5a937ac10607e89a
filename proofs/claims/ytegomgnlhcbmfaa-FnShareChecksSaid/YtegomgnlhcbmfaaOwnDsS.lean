/- Draws: shares to be checked (printed by gen_drsh4.py). -/
import Derived.Test.YtegomgnlhcbmfaaDrSh3S
import Derived.Test.YtegomgnlhcbmfaaBaS
import Derived.Test.YtegomgnlhcbmfaaRegPS
namespace Go.Proofs.Ytegomgnlhcbmfaa
open Go.RowKit
set_option linter.unusedSimpArgs false
set_option linter.unusedVariables false
theorem spec_l1InB (n lo hi : Int) (w : World) :
    Calls Try.prog 107 #[.int .i64 n, .int .i64 lo, .int .i64 hi] w fun e w' => e = .returned (.bool (decide (lo ≤ n ∧ n ≤ hi))) ∧ Below w.heap.size w w' := by
  refine (spec_l1In n lo hi w).mono ?_
  rintro e w' ⟨rfl, rfl⟩
  exact ⟨rfl, Below.refl _ _⟩
theorem Ints.cellY {w : World} {b o n c j : Nat} {l : List Int} {y : Int} (h : Ints w (.slice (some ⟨b, o, none⟩) n c) l) (hj : j < n) (hy : nth l j = y) : w.cell? ⟨b, o + j, none⟩ = some (.int .i64 y) := by
  obtain ⟨b', o', e, hp⟩ := h.at_ (by omega)
  cases e
  rw [← hy]
  exact hp j hj
set_option maxRecDepth 100000 in
set_option maxHeartbeats 4000000 in
theorem spec_DrawCheckShare (v : Value) (w : World) (h : Bytes w v) :
    Calls Try.prog 32 #[v] w fun e w' => (∃ (P : Int) (Q : Int) (G : Int) (vr1 : Value) (lr1 : List Int) (xr2 : Int) (xr3 : Int), e = .returned (.tuple #[.agg #[.int .i64 P, .int .i64 Q, .int .i64 G], vr1, .int .i64 xr2, .int .i64 xr3]) ∧ GrB ⟨P, Q, G⟩ ∧ (Ints w' vr1 lr1 ∧ lr1.length ≤ 7) ∧ (-10 ≤ xr2 ∧ xr2 ≤ 2000000010) ∧ I64 xr3) ∧ Below w.heap.size w w' := by
  obtain ⟨a, m, c, rfl, hk1, hk2, hv⟩ := h
  have HY : Hid (Bytes w (.slice a m c)) := ⟨a, m, c, rfl, hk1, hk2, hv⟩
  clear hv
  unfold maxLen at hk2
  obtain ⟨U, hU⟩ : ∃ U, U = w.alloc (.cells #[.int .i64 0, .int .i64 0, .int .i64 0] 24) := ⟨_, rfl⟩
  have hbU : Below w.heap.size w U := by rw [hU]; (repeat (first | exact Below.refl _ _ | assumption | refine Below.drew ?_ | refine Below.alloc ?_ (by first | (simp; done) | (simp; omega)) _ | refine Below.setCell ?_ (by first | (simp; done) | (simp; omega)) _))
  have HX0 : Hid (BoxN U w.heap.size 24 [.int .i64 0, .int .i64 0, .int .i64 0]) := by unfold Hid; rw [hU]; have h := (BoxN.new w [.int .i64 0, .int .i64 0, .int .i64 0] 24); simpa using h
  have hsU : U.heap.size = w.heap.size + 1 := by rw [hU]; simp
  obtain ⟨W, hW⟩ : ∃ W, W = U.alloc (.cells #[.slice a m c, .int .i64 0, .int .u64 0] 107) := ⟨_, rfl⟩
  have HC : Hid (Cur U W U.heap.size 0) := by unfold Hid; rw [hW]; exact Cur.new U (HY.out.below hbU)
  have hbW : Below U.heap.size U W := by rw [hW]; exact (Below.refl _ _).alloc (Nat.le_refl _) _
  have HBW := Lib.hid (Below.next hbU hbW)
  have HUB := Lib.hid hbW
  replace HX0 := Lib.hid (HX0.out.below hbW)
  obtain ⟨g, hg⟩ : ∃ g, g = U.heap.size := ⟨_, rfl⟩
  have HSU : Hid (w.heap.size + 1 = g) := by unfold Hid; rw [hg, hsU]
  have HWS : Hid (W.heap.size = g + 1) := by unfold Hid; rw [hW, hg]; simp
  go_enter Try.func32, Try.ntmps32
  go_wp2_with fail
  rw [← hU, ← hW]
  rw [HSU.out]
  rw [← hg] at HC HUB
  have HUS : Hid (U.heap.size = g) := hg.symm
  have hwg : w.heap.size + 1 = g := HSU.out
  have hsW := HWS.out
  have HW := Lib.hid (Within.refl g (g + 1) W)
  have HUC : Hid (Below U.heap.size U W) := by unfold Hid; rw [HUS.out]; exact HUB.out
  clear hU hW hbU hbW hsU hg
  have z_0_0 := HX0.out.cell (i := 0) rfl
  have z_0_1 := HX0.out.cell (i := 1) rfl
  have z_0_2 := HX0.out.cell (i := 2) rfl
  try (go_wp2_with fail)
  clear z_0_0 z_0_1 z_0_2
  refine (spec_shared U g _ _ HC.out (HW.out.belowOf HUC.out (Nat.le_of_eq HUS.out)) (by omega)).mono ?_
  rintro e u1 ⟨⟨P, Q, G, rfl, P1, Q1, G1⟩, hc, hw⟩
  have HGR : Hid (GrB ⟨P, Q, G⟩) := ⟨P1, Q1, G1⟩
  clear P1 Q1 G1
  have hsz1 := hw.size
  replace HX0 := Lib.hid (HX0.out.kept hw (.inl (by omega)))
  replace HW := Lib.hid (HW.out.trans hw)
  replace HC := Lib.hid hc
  clear hc hw
  have z_0_0 := HX0.out.cell (i := 0) rfl
  have z_0_1 := HX0.out.cell (i := 1) rfl
  have z_0_2 := HX0.out.cell (i := 2) rfl
  have lt_HX0 := HX0.out.lt
  obtain ⟨V2, hV⟩ : ∃ V, V = u1.alloc (.cells #[.int .i64 P, .int .i64 Q, .int .i64 G] 24) := ⟨_, rfl⟩
  have hbV : Below u1.heap.size u1 V2 := by rw [hV]; (repeat (first | exact Below.refl _ _ | assumption | refine Below.drew ?_ | refine Below.alloc ?_ (by first | (simp; done) | (simp; omega)) _ | refine Below.setCell ?_ (by first | (simp; done) | (simp; omega)) _))
  have HZ1 : Hid (BoxN V2 u1.heap.size 24 [.int .i64 P, .int .i64 Q, .int .i64 G]) := by unfold Hid; rw [hV]; have h := (BoxN.new u1 [.int .i64 P, .int .i64 Q, .int .i64 G] 24); simpa using h
  have hgc : g < u1.heap.size := HC.out.lt
  go_wp2_with fail
  rw [← hV]
  have hsV2 : V2.heap.size = u1.heap.size + 1 := by rw [hV]; simp
  clear hV hgc
  replace HX0 := Lib.hid (HX0.out.below hbV)
  replace HW := Lib.hid (HW.out.trans (Within.of_below hbV))
  replace HC := Lib.hid (HC.out.keep hbV)
  clear hbV
  clear z_0_0 z_0_1 z_0_2
  clear lt_HX0
  refine (spec_anyDealing U g _ P Q G _ HC.out (HW.out.belowOf HUC.out (Nat.le_of_eq HUS.out)) (by omega) HGR.out).mono ?_
  rintro e u3 ⟨⟨v3a, v3b, l3a, l3b, rfl, ⟨ho3a, hl3a⟩, ⟨ho3b, hl3b⟩⟩, hc, hw⟩
  obtain ⟨a3a, n3a, c3a, rfl⟩ := ho3a.ints.shape
  have HE3a := Lib.hid ho3a.ints.len
  have HL3a := Lib.hid (Since.of_ownI ho3a (Nat.le_refl _))
  have hn3a : n3a ≤ 7 := by have := HE3a.out; omega
  clear ho3a
  obtain ⟨a3b, n3b, c3b, rfl⟩ := ho3b.ints.shape
  have HE3b := Lib.hid ho3b.ints.len
  have HL3b := Lib.hid (Since.of_ownI ho3b (Nat.le_refl _))
  have hn3b : n3b ≤ 7 := by have := HE3b.out; omega
  clear ho3b
  have hsz3 := hw.size
  replace HX0 := Lib.hid (HX0.out.kept hw (.inl (by omega)))
  replace HZ1 := Lib.hid (HZ1.out.kept hw (.inr (by omega)))
  replace HW := Lib.hid (HW.out.trans hw)
  replace HC := Lib.hid hc
  clear hc hw
  have z_0_0 := HX0.out.cell (i := 0) rfl
  have z_0_1 := HX0.out.cell (i := 1) rfl
  have z_0_2 := HX0.out.cell (i := 2) rfl
  have z_1_0 := HZ1.out.cell (i := 0) rfl
  have z_1_1 := HZ1.out.cell (i := 1) rfl
  have z_1_2 := HZ1.out.cell (i := 2) rfl
  have lt_HX0 := HX0.out.lt
  have lt_HZ1 := HZ1.out.lt
  obtain ⟨V4, hV⟩ : ∃ V, V = u3.alloc (.cells #[.slice a3a n3a c3a, .slice a3b n3b c3b] 66) := ⟨_, rfl⟩
  have hbV : Below u3.heap.size u3 V4 := by rw [hV]; (repeat (first | exact Below.refl _ _ | assumption | refine Below.drew ?_ | refine Below.alloc ?_ (by first | (simp; done) | (simp; omega)) _ | refine Below.setCell ?_ (by first | (simp; done) | (simp; omega)) _))
  have HZ2 : Hid (BoxN V4 u3.heap.size 66 [.slice a3a n3a c3a, .slice a3b n3b c3b]) := by unfold Hid; rw [hV]; have h := (BoxN.new u3 [.slice a3a n3a c3a, .slice a3b n3b c3b] 66); simpa using h
  have hgc : g < u3.heap.size := HC.out.lt
  go_wp2_with fail
  rw [← hV]
  have hsV4 : V4.heap.size = u3.heap.size + 1 := by rw [hV]; simp
  clear hV hgc
  replace HX0 := Lib.hid (HX0.out.below hbV)
  replace HZ1 := Lib.hid (HZ1.out.below hbV)
  replace HL3a := Lib.hid (HL3a.out.below hbV)
  replace HL3b := Lib.hid (HL3b.out.below hbV)
  replace HW := Lib.hid (HW.out.trans (Within.of_below hbV))
  replace HC := Lib.hid (HC.out.keep hbV)
  clear hbV
  clear z_0_0 z_0_1 z_0_2 z_1_0 z_1_1 z_1_2
  clear lt_HX0
  clear lt_HZ1
  refine (spec_pick U g _ 8 _ HC.out (HW.out.belowOf HUC.out (Nat.le_of_eq HUS.out)) (by omega) ).mono ?_
  rintro e u5 ⟨⟨x5, rfl, x5l, x5u, x5m, _⟩, hc, hw⟩
  replace x5m := x5m (by omega)
  have hsz5 := hw.size
  replace HX0 := Lib.hid (HX0.out.kept hw (.inl (by omega)))
  replace HZ1 := Lib.hid (HZ1.out.kept hw (.inr (by omega)))
  replace HZ2 := Lib.hid (HZ2.out.kept hw (.inr (by omega)))
  replace HL3a := Lib.hid (HL3a.out.within hw (by omega))
  replace HL3b := Lib.hid (HL3b.out.within hw (by omega))
  replace HW := Lib.hid (HW.out.trans hw)
  replace HC := Lib.hid hc
  clear hc hw
  have ew3 : IntKind.i64.wrap (1 + x5) = 1 + x5 := IntWalk.i64_in _ (by omega)
  have z_0_0 := HX0.out.cell (i := 0) rfl
  have z_0_1 := HX0.out.cell (i := 1) rfl
  have z_0_2 := HX0.out.cell (i := 2) rfl
  have z_1_0 := HZ1.out.cell (i := 0) rfl
  have z_1_1 := HZ1.out.cell (i := 1) rfl
  have z_1_2 := HZ1.out.cell (i := 2) rfl
  have z_2_0 := HZ2.out.cell (i := 0) rfl
  have z_2_1 := HZ2.out.cell (i := 1) rfl
  try (go_wp2_with fail)
  clear z_0_0 z_0_1 z_0_2 z_1_0 z_1_1 z_1_2 z_2_0 z_2_1
  refine (spec_pick U g _ 20 _ HC.out (HW.out.belowOf HUC.out (Nat.le_of_eq HUS.out)) (by omega) ).mono ?_
  rintro e u6 ⟨⟨x6, rfl, x6l, x6u, x6m, _⟩, hc, hw⟩
  replace x6m := x6m (by omega)
  have hsz6 := hw.size
  replace HX0 := Lib.hid (HX0.out.kept hw (.inl (by omega)))
  replace HZ1 := Lib.hid (HZ1.out.kept hw (.inr (by omega)))
  replace HZ2 := Lib.hid (HZ2.out.kept hw (.inr (by omega)))
  replace HL3a := Lib.hid (HL3a.out.within hw (by omega))
  replace HL3b := Lib.hid (HL3b.out.within hw (by omega))
  replace HW := Lib.hid (HW.out.trans hw)
  replace HC := Lib.hid hc
  clear hc hw
  obtain ⟨D1, hD1⟩ : ∃ z, Int.tdiv x6 19 = z := ⟨_, rfl⟩
  have hD2 : 0 ≤ D1 ∧ D1 ≤ 1 := by rw [← hD1, Int.tdiv_eq_ediv_of_nonneg (by omega)]; omega
  obtain ⟨hD3, hD4⟩ := hD2
  have ewD : IntKind.i64.wrap D1 = D1 := IntWalk.i64_in _ (by omega)
  have ewE : IntKind.i64.wrap ((1 + x5) - D1) = (1 + x5) - D1 := IntWalk.i64_in _ (by omega)
  have z_0_0 := HX0.out.cell (i := 0) rfl
  have z_0_1 := HX0.out.cell (i := 1) rfl
  have z_0_2 := HX0.out.cell (i := 2) rfl
  have z_1_0 := HZ1.out.cell (i := 0) rfl
  have z_1_1 := HZ1.out.cell (i := 1) rfl
  have z_1_2 := HZ1.out.cell (i := 2) rfl
  have z_2_0 := HZ2.out.cell (i := 0) rfl
  have z_2_1 := HZ2.out.cell (i := 1) rfl
  go_upto_region 5 with fail
  clear z_0_0 z_0_1 z_0_2 z_1_0 z_1_1 z_1_2 z_2_0 z_2_1
  obtain ⟨ix, hix⟩ : ∃ z, (1 + x5) - D1 = z := ⟨_, rfl⟩
  (try rw [hix])
  have ix1 : -10 ≤ ix := by omega
  have ix2 : ix ≤ 2000000010 := by omega
  clear ewD ewE hD1 hix
  have z_0_0 := HX0.out.cell (i := 0) rfl
  have z_0_1 := HX0.out.cell (i := 1) rfl
  have z_0_2 := HX0.out.cell (i := 2) rfl
  have z_1_0 := HZ1.out.cell (i := 0) rfl
  have z_1_1 := HZ1.out.cell (i := 1) rfl
  have z_1_2 := HZ1.out.cell (i := 2) rfl
  have z_2_0 := HZ2.out.cell (i := 0) rfl
  have z_2_1 := HZ2.out.cell (i := 1) rfl
  try (go_wp2_with fail)
  clear z_0_0 z_0_1 z_0_2 z_1_0 z_1_1 z_1_2 z_2_0 z_2_1
  refine (spec_l1InB ix 1 (n3b : Int) _).mono ?_
  rintro e u7 ⟨rfl, hb⟩
  obtain ⟨q7, hq7⟩ : ∃ r, decide (1 ≤ ix ∧ ix ≤ (n3b : Int)) = r := ⟨_, rfl⟩
  have Hq7 := Lib.hid hq7
  rw [hq7]
  clear hq7
  have hsz7 := hb.size
  replace HX0 := Lib.hid (HX0.out.below hb)
  replace HZ1 := Lib.hid (HZ1.out.below hb)
  replace HZ2 := Lib.hid (HZ2.out.below hb)
  replace HL3a := Lib.hid (HL3a.out.below hb)
  replace HL3b := Lib.hid (HL3b.out.below hb)
  replace HW := Lib.hid (HW.out.trans (Within.of_below hb))
  replace HC := Lib.hid (HC.out.keep hb)
  clear hb
  cases q7 with
  | false =>
    have z_0_0 := HX0.out.cell (i := 0) rfl
    have z_0_1 := HX0.out.cell (i := 1) rfl
    have z_0_2 := HX0.out.cell (i := 2) rfl
    have z_1_0 := HZ1.out.cell (i := 0) rfl
    have z_1_1 := HZ1.out.cell (i := 1) rfl
    have z_1_2 := HZ1.out.cell (i := 2) rfl
    have z_2_0 := HZ2.out.cell (i := 0) rfl
    have z_2_1 := HZ2.out.cell (i := 1) rfl
    try (go_wp2_with fail)
    clear z_0_0
    clear z_0_1
    clear z_0_2
    refine wp_region_noPanic ?_
    refine wp_region_V (fun w' => w'.cell? ⟨u1.heap.size, 0, none⟩ = some (.int .i64 P) ∧ w'.cell? ⟨u1.heap.size, 1, none⟩ = some (.int .i64 Q) ∧ w'.cell? ⟨u1.heap.size, 2, none⟩ = some (.int .i64 G) ∧ w'.cell? ⟨u3.heap.size, 0, none⟩ = some (.slice a3a n3a c3a) ∧ w'.cell? ⟨u3.heap.size, 1, none⟩ = some (.slice a3b n3b c3b)) 13 9 (.rd 0 (.rd 1 (.rd 2 (.rd 3 (.rd 4 (.rd 5 (.alt 6 (.alt 7 (.alt 8 .done .nil) .nil) .nil))))))) [9, 10] (by kernel_rfl) (by kernel_rfl) rfl (fun _ _ _ _ _ h => h) ⟨box_at z_1_0 (Below.refl _ _).drew, box_at z_1_1 (Below.refl _ _).drew, box_at z_1_2 (Below.refl _ _).drew, box_at z_2_0 (Below.refl _ _).drew, box_at z_2_1 (Below.refl _ _).drew⟩ ?_
    simp only [pickV, pickN, List.getElem?_cons_zero, List.getElem?_cons_succ]
    repeat (refine' wpV_read _ (by kernel_rfl) (fun w' hS' => ?_) ?_; rotate_left; (focus ((try dsimp only at hS'); go_simp; (try with_reducible rfl))); (try simp only [Act.put, List.setIfInBounds_toArray, List.set_cons_zero, List.set_cons_succ]))
    have hdr : Below u7.heap.size u7 u7.drew := (Below.refl _ _).drew
    have hszd := hdr.size
    replace HX0 := Lib.hid (HX0.out.below hdr)
    replace HZ1 := Lib.hid (HZ1.out.below hdr)
    replace HZ2 := Lib.hid (HZ2.out.below hdr)
    replace HL3a := Lib.hid (HL3a.out.below hdr)
    replace HL3b := Lib.hid (HL3b.out.below hdr)
    replace HW := Lib.hid (HW.out.trans (Within.of_below hdr))
    replace HC := Lib.hid (HC.out.keep hdr)
    clear hdr
    refine wpV_do (by kernel_rfl) (fun K hK => ?_)
    -- 6: call
    go_simp
    go_at_call 68
    refine (spec_anyExpo U g _ P Q G _ HC.out (HW.out.belowOf HUC.out (Nat.le_of_eq HUS.out)) (by omega) HGR.out).mono ?_
    rintro e ut1 ⟨⟨xt1, rfl, xt1l, xt1u⟩, hc, hw⟩
    have hszt1 := hw.size
    replace HX0 := Lib.hid (HX0.out.kept hw (.inl (by omega)))
    replace HZ1 := Lib.hid (HZ1.out.kept hw (.inr (by omega)))
    replace HZ2 := Lib.hid (HZ2.out.kept hw (.inr (by omega)))
    replace HL3a := Lib.hid (HL3a.out.within hw (by omega))
    replace HL3b := Lib.hid (HL3b.out.within hw (by omega))
    replace HW := Lib.hid (HW.out.trans hw)
    replace HC := Lib.hid hc
    clear hc hw
    clear z_1_0 z_1_1 z_1_2 z_2_0 z_2_1
    have z_1_0 := HZ1.out.cell (i := 0) rfl
    have z_1_1 := HZ1.out.cell (i := 1) rfl
    have z_1_2 := HZ1.out.cell (i := 2) rfl
    have z_2_0 := HZ2.out.cell (i := 0) rfl
    have z_2_1 := HZ2.out.cell (i := 1) rfl
    refine hK.out _ _ ⟨z_1_0, z_1_1, z_1_2, z_2_0, z_2_1⟩ (fun _ => ?_)
    clear hK K
    (try simp only [Act.put, List.setIfInBounds_toArray, List.set_cons_zero, List.set_cons_succ])
    refine wpV_do (by kernel_rfl) (fun K hK => ?_)
    -- 7: store
    have r0 := HX0.out.cell (i := 0) rfl
    have r1 := HX0.out.cell (i := 1) rfl
    have r2 := HX0.out.cell (i := 2) rfl
    have fr := fun j => HX0.out.frozen j
    obtain ⟨Y2, hY⟩ : ∃ Y, Y = ((ut1.setCell ⟨w.heap.size, 0, none⟩ (.int .i64 P)).setCell ⟨w.heap.size, 1, none⟩ (.int .i64 Q)).setCell ⟨w.heap.size, 2, none⟩ (.int .i64 G) := ⟨_, rfl⟩
    have hYl : Within (w.heap.size) (w.heap.size + 1) ut1 Y2 := by rw [hY]; exact ((((Within.refl (w.heap.size) (w.heap.size + 1) ut1).setCell (b := w.heap.size) (by omega) (by omega) 0 (.int .i64 P)).setCell (b := w.heap.size) (by omega) (by omega) 1 (.int .i64 Q)).setCell (b := w.heap.size) (by omega) (by omega) 2 (.int .i64 G))
    have HYW : Hid (Within w.heap.size (w.heap.size + 1) ut1 Y2) := hYl.mono (by omega) (by omega)
    have HYB : Hid (Below w.heap.size w Y2) := hYl.belowU (HW.out.belowOf HBW.out (by omega)) (by omega)
    have HCS : Hid (∀ w', Within w.heap.size (w.heap.size + 1) ut1 w' → w'.cell? ⟨u1.heap.size, 0, none⟩ = some (.int .i64 P) ∧ w'.cell? ⟨u1.heap.size, 1, none⟩ = some (.int .i64 Q) ∧ w'.cell? ⟨u1.heap.size, 2, none⟩ = some (.int .i64 G) ∧ w'.cell? ⟨u3.heap.size, 0, none⟩ = some (.slice a3a n3a c3a) ∧ w'.cell? ⟨u3.heap.size, 1, none⟩ = some (.slice a3b n3b c3b)) := fun w' h => ⟨within_at h z_1_0 (by omega), within_at h z_1_1 (by omega), within_at h z_1_2 (by omega), within_at h z_2_0 (by omega), within_at h z_2_1 (by omega)⟩
    go_simp
    refine hK.out _ _ ?_ (fun _ => ?_)
    · rw [← hY]; exact HCS.out _ HYW.out
    rw [← hY]
    clear hK K fr r0 r1 r2
    replace HX0 : Hid (BoxN Y2 w.heap.size 24 [.int .i64 P, .int .i64 Q, .int .i64 G]) := by unfold Hid; rw [hY]; exact (((HX0.out.set 0 (.int .i64 P)).set 1 (.int .i64 Q)).set 2 (.int .i64 G))
    clear hY hYl
    (try simp only [Act.put, List.setIfInBounds_toArray, List.set_cons_zero, List.set_cons_succ])
    clear z_1_0 z_1_1 z_1_2 z_2_0 z_2_1
    obtain ⟨z_1_0, z_1_1, z_1_2, z_2_0, z_2_1⟩ := HCS.out _ HYW.out
    refine wpV_do (by kernel_rfl) (fun K hK => ?_)
    -- 8: load
    go_simp
    refine hK.out _ _ ⟨z_1_0, z_1_1, z_1_2, z_2_0, z_2_1⟩ (fun _ => ?_)
    clear hK K
    (try simp only [Act.put, List.setIfInBounds_toArray, List.set_cons_zero, List.set_cons_succ])
    refine wpV_done ?_
    go_wp2_with fail
    refine NoPanic.normal ?_
    clear z_1_0 z_1_1 z_1_2 z_2_0 z_2_1
    have t_HX0_0 := HX0.out.cell (i := 0) rfl
    have t_HX0_1 := HX0.out.cell (i := 1) rfl
    have t_HX0_2 := HX0.out.cell (i := 2) rfl
    try (go_wp2_with fail)
    refine bodyPost_ret (v := .tuple #[.agg #[.int .i64 P, .int .i64 Q, .int .i64 G], .slice a3a n3a c3a, .int .i64 ix, .int .i64 xt1]) (by simp [results, Try.results32, go_sem, t_HX0_0, t_HX0_1, t_HX0_2]) rfl ⟨⟨_, _, _, _, _, _, _, rfl, HGR.out, ⟨(HL3a.out.within HYW.out (by omega)).here, by have := HE3a.out; omega⟩, ⟨by omega, by omega⟩, (by first | assumption | exact ⟨by omega, by omega⟩)⟩, HYB.out⟩
  | true =>
    have z_0_0 := HX0.out.cell (i := 0) rfl
    have z_0_1 := HX0.out.cell (i := 1) rfl
    have z_0_2 := HX0.out.cell (i := 2) rfl
    have z_1_0 := HZ1.out.cell (i := 0) rfl
    have z_1_1 := HZ1.out.cell (i := 1) rfl
    have z_1_2 := HZ1.out.cell (i := 2) rfl
    have z_2_0 := HZ2.out.cell (i := 0) rfl
    have z_2_1 := HZ2.out.cell (i := 1) rfl
    try (go_wp2_with fail)
    clear z_0_0 z_0_1 z_0_2 z_1_0 z_1_1 z_1_2 z_2_0 z_2_1
    refine (spec_one U g _ 4 _ HC.out (HW.out.belowOf HUC.out (Nat.le_of_eq HUS.out)) (by omega) ).mono ?_
    rintro e u8 ⟨⟨b8, rfl⟩, hc, hw⟩
    have hsz8 := hw.size
    replace HX0 := Lib.hid (HX0.out.kept hw (.inl (by omega)))
    replace HZ1 := Lib.hid (HZ1.out.kept hw (.inr (by omega)))
    replace HZ2 := Lib.hid (HZ2.out.kept hw (.inr (by omega)))
    replace HL3a := Lib.hid (HL3a.out.within hw (by omega))
    replace HL3b := Lib.hid (HL3b.out.within hw (by omega))
    replace HW := Lib.hid (HW.out.trans hw)
    replace HC := Lib.hid hc
    clear hc hw
    cases b8 with
    | false =>
      have hin := of_decide_eq_true Hq7.out
      have hjn : ix.toNat - 1 < n3b := by omega
      obtain ⟨sb, so, e, hpc⟩ := HL3b.out.here.at_ (by omega)
      cases e
      have ys := hpc _ hjn
      have hyI := nth_64 HL3b.out.here (ix.toNat - 1)
      clear hpc
      obtain ⟨y1, hy1⟩ : ∃ y, nth l3b (ix.toNat - 1) = y := ⟨_, rfl⟩
      have Hy1 := Lib.hid hy1
      rw [hy1] at ys hyI
      have hjn2 : ix - 1 < (n3b : Int) := by omega
      have hjn3 : 0 ≤ ix - 1 := by omega
      clear hy1
      have z_0_0 := HX0.out.cell (i := 0) rfl
      have z_0_1 := HX0.out.cell (i := 1) rfl
      have z_0_2 := HX0.out.cell (i := 2) rfl
      have z_1_0 := HZ1.out.cell (i := 0) rfl
      have z_1_1 := HZ1.out.cell (i := 1) rfl
      have z_1_2 := HZ1.out.cell (i := 2) rfl
      have z_2_0 := HZ2.out.cell (i := 0) rfl
      have z_2_1 := HZ2.out.cell (i := 1) rfl
      try (go_wp2_with fail)
      clear z_0_0
      clear z_0_1
      clear z_0_2
      refine wp_region_noPanic ?_
      refine wp_region_V (fun w' => w'.cell? ⟨u1.heap.size, 0, none⟩ = some (.int .i64 P) ∧ w'.cell? ⟨u1.heap.size, 1, none⟩ = some (.int .i64 Q) ∧ w'.cell? ⟨u1.heap.size, 2, none⟩ = some (.int .i64 G) ∧ w'.cell? ⟨u3.heap.size, 0, none⟩ = some (.slice a3a n3a c3a) ∧ w'.cell? ⟨u3.heap.size, 1, none⟩ = some (.slice (some ⟨sb, so, none⟩) n3b c3b) ∧ w'.cell? ⟨sb, so + (ix.toNat - 1), none⟩ = some (.int .i64 y1)) 16 13 (.rd 0 (.rd 1 (.rd 2 (.rd 3 (.rd 4 (.rd 5 (.rd 6 (.rd 7 (.rd 8 (.rd 9 (.alt 10 (.alt 11 (.alt 12 .done .nil) .nil) .nil))))))))))) [13] (by kernel_rfl) (by kernel_rfl) rfl (fun _ _ _ _ _ h => h) ⟨box_at z_1_0 (Below.refl _ _).drew, box_at z_1_1 (Below.refl _ _).drew, box_at z_1_2 (Below.refl _ _).drew, box_at z_2_0 (Below.refl _ _).drew, box_at z_2_1 (Below.refl _ _).drew, (Ints.cellY (HL3b.out.below (Below.refl _ _).drew).here hjn Hy1.out)⟩ ?_
      simp only [pickV, pickN, List.getElem?_cons_zero, List.getElem?_cons_succ]
      have ew4 : IntKind.i64.wrap (ix - 1) = ix - 1 := IntWalk.i64_in _ (by omega)
      repeat (refine' wpV_read _ (by kernel_rfl) (fun w' hS' => ?_) ?_; rotate_left; (focus ((try dsimp only at hS'); go_simp; (try with_reducible rfl))); (try simp only [Act.put, List.setIfInBounds_toArray, List.set_cons_zero, List.set_cons_succ]))
      have hdr : Below u8.heap.size u8 u8.drew := (Below.refl _ _).drew
      have hszd := hdr.size
      replace HX0 := Lib.hid (HX0.out.below hdr)
      replace HZ1 := Lib.hid (HZ1.out.below hdr)
      replace HZ2 := Lib.hid (HZ2.out.below hdr)
      replace HL3a := Lib.hid (HL3a.out.below hdr)
      replace HL3b := Lib.hid (HL3b.out.below hdr)
      replace HW := Lib.hid (HW.out.trans (Within.of_below hdr))
      replace HC := Lib.hid (HC.out.keep hdr)
      clear hdr
      refine wpV_do (by kernel_rfl) (fun K hK => ?_)
      -- 10: store
      have r0 := HX0.out.cell (i := 0) rfl
      have r1 := HX0.out.cell (i := 1) rfl
      have r2 := HX0.out.cell (i := 2) rfl
      have fr := fun j => HX0.out.frozen j
      have q0 : u8.cell? ⟨w.heap.size, 0, none⟩ = some (.int .i64 0) := r0
      have q1 : u8.cell? ⟨w.heap.size, 1, none⟩ = some (.int .i64 0) := r1
      have q2 : u8.cell? ⟨w.heap.size, 2, none⟩ = some (.int .i64 0) := r2
      have frd : ∀ j, u8.frozen? ⟨w.heap.size, j, none⟩ = false := fr
      obtain ⟨Y1, hY⟩ : ∃ Y, Y = (((u8.setCell ⟨w.heap.size, 0, none⟩ (.int .i64 P)).setCell ⟨w.heap.size, 1, none⟩ (.int .i64 Q)).setCell ⟨w.heap.size, 2, none⟩ (.int .i64 G)).drew := ⟨_, rfl⟩
      have hYG := hY
      replace hY : Y1 = ((u8.drew.setCell ⟨w.heap.size, 0, none⟩ (.int .i64 P)).setCell ⟨w.heap.size, 1, none⟩ (.int .i64 Q)).setCell ⟨w.heap.size, 2, none⟩ (.int .i64 G) := by rw [hY]; first | rfl | simp [go_sem]
      have hYl : Within (w.heap.size) (w.heap.size + 1) u8.drew Y1 := by rw [hY]; exact ((((Within.refl (w.heap.size) (w.heap.size + 1) u8.drew).setCell (b := w.heap.size) (by omega) (by omega) 0 (.int .i64 P)).setCell (b := w.heap.size) (by omega) (by omega) 1 (.int .i64 Q)).setCell (b := w.heap.size) (by omega) (by omega) 2 (.int .i64 G))
      have HYW : Hid (Within w.heap.size (w.heap.size + 1) u8.drew Y1) := hYl.mono (by omega) (by omega)
      have HYB : Hid (Below w.heap.size w Y1) := hYl.belowU (HW.out.belowOf HBW.out (by omega)) (by omega)
      have HCS : Hid (∀ w', Within w.heap.size (w.heap.size + 1) u8.drew w' → w'.cell? ⟨u1.heap.size, 0, none⟩ = some (.int .i64 P) ∧ w'.cell? ⟨u1.heap.size, 1, none⟩ = some (.int .i64 Q) ∧ w'.cell? ⟨u1.heap.size, 2, none⟩ = some (.int .i64 G) ∧ w'.cell? ⟨u3.heap.size, 0, none⟩ = some (.slice a3a n3a c3a) ∧ w'.cell? ⟨u3.heap.size, 1, none⟩ = some (.slice (some ⟨sb, so, none⟩) n3b c3b) ∧ w'.cell? ⟨sb, so + (ix.toNat - 1), none⟩ = some (.int .i64 y1)) := fun w' h => ⟨within_at h z_1_0 (by omega), within_at h z_1_1 (by omega), within_at h z_1_2 (by omega), within_at h z_2_0 (by omega), within_at h z_2_1 (by omega), (Ints.cellY (HL3b.out.within h (by omega)).here hjn Hy1.out)⟩
      go_simp
      refine hK.out _ _ ?_ (fun _ => ?_)
      · rw [← hYG]; exact HCS.out _ HYW.out
      rw [← hYG]
      clear hK K fr r0 r1 r2
      replace HX0 : Hid (BoxN Y1 w.heap.size 24 [.int .i64 P, .int .i64 Q, .int .i64 G]) := by unfold Hid; rw [hY]; exact (((HX0.out.set 0 (.int .i64 P)).set 1 (.int .i64 Q)).set 2 (.int .i64 G))
      clear hYG frd q0 q1 q2
      clear hY hYl
      (try simp only [Act.put, List.setIfInBounds_toArray, List.set_cons_zero, List.set_cons_succ])
      clear z_1_0 z_1_1 z_1_2 z_2_0 z_2_1 ys
      obtain ⟨z_1_0, z_1_1, z_1_2, z_2_0, z_2_1, ys⟩ := HCS.out _ HYW.out
      refine wpV_do (by kernel_rfl) (fun K hK => ?_)
      -- 11: load
      go_simp
      refine hK.out _ _ ⟨z_1_0, z_1_1, z_1_2, z_2_0, z_2_1, ys⟩ (fun _ => ?_)
      clear hK K
      (try simp only [Act.put, List.setIfInBounds_toArray, List.set_cons_zero, List.set_cons_succ])
      refine wpV_do (by kernel_rfl) (fun K hK => ?_)
      -- 12: load
      go_simp
      refine hK.out _ _ ⟨z_1_0, z_1_1, z_1_2, z_2_0, z_2_1, ys⟩ (fun _ => ?_)
      clear hK K
      (try simp only [Act.put, List.setIfInBounds_toArray, List.set_cons_zero, List.set_cons_succ])
      refine wpV_done ?_
      go_wp2_with fail
      refine NoPanic.normal ?_
      clear z_1_0 z_1_1 z_1_2 z_2_0 z_2_1 ys
      have t_HX0_0 := HX0.out.cell (i := 0) rfl
      have t_HX0_1 := HX0.out.cell (i := 1) rfl
      have t_HX0_2 := HX0.out.cell (i := 2) rfl
      try (go_wp2_with fail)
      refine bodyPost_ret (v := .tuple #[.agg #[.int .i64 P, .int .i64 Q, .int .i64 G], .slice a3a n3a c3a, .int .i64 ix, .int .i64 y1]) (by simp [results, Try.results32, go_sem, t_HX0_0, t_HX0_1, t_HX0_2]) rfl ⟨⟨_, _, _, _, _, _, _, rfl, HGR.out, ⟨(HL3a.out.within HYW.out (by omega)).here, by have := HE3a.out; omega⟩, ⟨by omega, by omega⟩, (by first | assumption | exact ⟨by omega, by omega⟩)⟩, HYB.out⟩
    | true =>
      have z_0_0 := HX0.out.cell (i := 0) rfl
      have z_0_1 := HX0.out.cell (i := 1) rfl
      have z_0_2 := HX0.out.cell (i := 2) rfl
      have z_1_0 := HZ1.out.cell (i := 0) rfl
      have z_1_1 := HZ1.out.cell (i := 1) rfl
      have z_1_2 := HZ1.out.cell (i := 2) rfl
      have z_2_0 := HZ2.out.cell (i := 0) rfl
      have z_2_1 := HZ2.out.cell (i := 1) rfl
      try (go_wp2_with fail)
      clear z_0_0
      clear z_0_1
      clear z_0_2
      refine wp_region_noPanic ?_
      refine wp_region_V (fun w' => w'.cell? ⟨u1.heap.size, 0, none⟩ = some (.int .i64 P) ∧ w'.cell? ⟨u1.heap.size, 1, none⟩ = some (.int .i64 Q) ∧ w'.cell? ⟨u1.heap.size, 2, none⟩ = some (.int .i64 G) ∧ w'.cell? ⟨u3.heap.size, 0, none⟩ = some (.slice a3a n3a c3a) ∧ w'.cell? ⟨u3.heap.size, 1, none⟩ = some (.slice a3b n3b c3b)) 13 9 (.rd 0 (.rd 1 (.rd 2 (.rd 3 (.rd 4 (.rd 5 (.alt 6 (.alt 7 (.alt 8 .done .nil) .nil) .nil))))))) [9, 10] (by kernel_rfl) (by kernel_rfl) rfl (fun _ _ _ _ _ h => h) ⟨box_at z_1_0 (Below.refl _ _).drew, box_at z_1_1 (Below.refl _ _).drew, box_at z_1_2 (Below.refl _ _).drew, box_at z_2_0 (Below.refl _ _).drew, box_at z_2_1 (Below.refl _ _).drew⟩ ?_
      simp only [pickV, pickN, List.getElem?_cons_zero, List.getElem?_cons_succ]
      repeat (refine' wpV_read _ (by kernel_rfl) (fun w' hS' => ?_) ?_; rotate_left; (focus ((try dsimp only at hS'); go_simp; (try with_reducible rfl))); (try simp only [Act.put, List.setIfInBounds_toArray, List.set_cons_zero, List.set_cons_succ]))
      have hdr : Below u8.heap.size u8 u8.drew := (Below.refl _ _).drew
      have hszd := hdr.size
      replace HX0 := Lib.hid (HX0.out.below hdr)
      replace HZ1 := Lib.hid (HZ1.out.below hdr)
      replace HZ2 := Lib.hid (HZ2.out.below hdr)
      replace HL3a := Lib.hid (HL3a.out.below hdr)
      replace HL3b := Lib.hid (HL3b.out.below hdr)
      replace HW := Lib.hid (HW.out.trans (Within.of_below hdr))
      replace HC := Lib.hid (HC.out.keep hdr)
      clear hdr
      refine wpV_do (by kernel_rfl) (fun K hK => ?_)
      -- 6: call
      go_simp
      go_at_call 68
      refine (spec_anyExpo U g _ P Q G _ HC.out (HW.out.belowOf HUC.out (Nat.le_of_eq HUS.out)) (by omega) HGR.out).mono ?_
      rintro e ut1 ⟨⟨xt1, rfl, xt1l, xt1u⟩, hc, hw⟩
      have hszt1 := hw.size
      replace HX0 := Lib.hid (HX0.out.kept hw (.inl (by omega)))
      replace HZ1 := Lib.hid (HZ1.out.kept hw (.inr (by omega)))
      replace HZ2 := Lib.hid (HZ2.out.kept hw (.inr (by omega)))
      replace HL3a := Lib.hid (HL3a.out.within hw (by omega))
      replace HL3b := Lib.hid (HL3b.out.within hw (by omega))
      replace HW := Lib.hid (HW.out.trans hw)
      replace HC := Lib.hid hc
      clear hc hw
      clear z_1_0 z_1_1 z_1_2 z_2_0 z_2_1
      have z_1_0 := HZ1.out.cell (i := 0) rfl
      have z_1_1 := HZ1.out.cell (i := 1) rfl
      have z_1_2 := HZ1.out.cell (i := 2) rfl
      have z_2_0 := HZ2.out.cell (i := 0) rfl
      have z_2_1 := HZ2.out.cell (i := 1) rfl
      refine hK.out _ _ ⟨z_1_0, z_1_1, z_1_2, z_2_0, z_2_1⟩ (fun _ => ?_)
      clear hK K
      (try simp only [Act.put, List.setIfInBounds_toArray, List.set_cons_zero, List.set_cons_succ])
      refine wpV_do (by kernel_rfl) (fun K hK => ?_)
      -- 7: store
      have r0 := HX0.out.cell (i := 0) rfl
      have r1 := HX0.out.cell (i := 1) rfl
      have r2 := HX0.out.cell (i := 2) rfl
      have fr := fun j => HX0.out.frozen j
      obtain ⟨Y2, hY⟩ : ∃ Y, Y = ((ut1.setCell ⟨w.heap.size, 0, none⟩ (.int .i64 P)).setCell ⟨w.heap.size, 1, none⟩ (.int .i64 Q)).setCell ⟨w.heap.size, 2, none⟩ (.int .i64 G) := ⟨_, rfl⟩
      have hYl : Within (w.heap.size) (w.heap.size + 1) ut1 Y2 := by rw [hY]; exact ((((Within.refl (w.heap.size) (w.heap.size + 1) ut1).setCell (b := w.heap.size) (by omega) (by omega) 0 (.int .i64 P)).setCell (b := w.heap.size) (by omega) (by omega) 1 (.int .i64 Q)).setCell (b := w.heap.size) (by omega) (by omega) 2 (.int .i64 G))
      have HYW : Hid (Within w.heap.size (w.heap.size + 1) ut1 Y2) := hYl.mono (by omega) (by omega)
      have HYB : Hid (Below w.heap.size w Y2) := hYl.belowU (HW.out.belowOf HBW.out (by omega)) (by omega)
      have HCS : Hid (∀ w', Within w.heap.size (w.heap.size + 1) ut1 w' → w'.cell? ⟨u1.heap.size, 0, none⟩ = some (.int .i64 P) ∧ w'.cell? ⟨u1.heap.size, 1, none⟩ = some (.int .i64 Q) ∧ w'.cell? ⟨u1.heap.size, 2, none⟩ = some (.int .i64 G) ∧ w'.cell? ⟨u3.heap.size, 0, none⟩ = some (.slice a3a n3a c3a) ∧ w'.cell? ⟨u3.heap.size, 1, none⟩ = some (.slice a3b n3b c3b)) := fun w' h => ⟨within_at h z_1_0 (by omega), within_at h z_1_1 (by omega), within_at h z_1_2 (by omega), within_at h z_2_0 (by omega), within_at h z_2_1 (by omega)⟩
      go_simp
      refine hK.out _ _ ?_ (fun _ => ?_)
      · rw [← hY]; exact HCS.out _ HYW.out
      rw [← hY]
      clear hK K fr r0 r1 r2
      replace HX0 : Hid (BoxN Y2 w.heap.size 24 [.int .i64 P, .int .i64 Q, .int .i64 G]) := by unfold Hid; rw [hY]; exact (((HX0.out.set 0 (.int .i64 P)).set 1 (.int .i64 Q)).set 2 (.int .i64 G))
      clear hY hYl
      (try simp only [Act.put, List.setIfInBounds_toArray, List.set_cons_zero, List.set_cons_succ])
      clear z_1_0 z_1_1 z_1_2 z_2_0 z_2_1
      obtain ⟨z_1_0, z_1_1, z_1_2, z_2_0, z_2_1⟩ := HCS.out _ HYW.out
      refine wpV_do (by kernel_rfl) (fun K hK => ?_)
      -- 8: load
      go_simp
      refine hK.out _ _ ⟨z_1_0, z_1_1, z_1_2, z_2_0, z_2_1⟩ (fun _ => ?_)
      clear hK K
      (try simp only [Act.put, List.setIfInBounds_toArray, List.set_cons_zero, List.set_cons_succ])
      refine wpV_done ?_
      go_wp2_with fail
      refine NoPanic.normal ?_
      clear z_1_0 z_1_1 z_1_2 z_2_0 z_2_1
      have t_HX0_0 := HX0.out.cell (i := 0) rfl
      have t_HX0_1 := HX0.out.cell (i := 1) rfl
      have t_HX0_2 := HX0.out.cell (i := 2) rfl
      try (go_wp2_with fail)
      refine bodyPost_ret (v := .tuple #[.agg #[.int .i64 P, .int .i64 Q, .int .i64 G], .slice a3a n3a c3a, .int .i64 ix, .int .i64 xt1]) (by simp [results, Try.results32, go_sem, t_HX0_0, t_HX0_1, t_HX0_2]) rfl ⟨⟨_, _, _, _, _, _, _, rfl, HGR.out, ⟨(HL3a.out.within HYW.out (by omega)).here, by have := HE3a.out; omega⟩, ⟨by omega, by omega⟩, (by first | assumption | exact ⟨by omega, by omega⟩)⟩, HYB.out⟩
end Go.Proofs.Ytegomgnlhcbmfaa
namespace Go.Proofs.Ytegomgnlhcbmfaa
open Go.RowKit
set_option linter.unusedSimpArgs false
set_option linter.unusedVariables false

def FrR {δ : Type} (e : TypeId) (R : RowK δ) (w0 w : World) (B : Nat) (v : Value) (ds : List δ) : Prop :=
  ∃ css : List (List Value), css.length = ds.length ∧ w.ownsRow B e R.width v ds.length css.flatten ∧ ∀ i (h1 : i < css.length) (h2 : i < ds.length), R.rd w0 css[i] ds[i]
section
variable {δ : Type} {e : TypeId} {R : RowK δ} {w0 w w' : World} {B : Nat} {v : Value} {ds es : List δ}
theorem FrR.lens {css : List (List Value)} (hl : css.length = ds.length) (hel : ∀ i (h1 : i < css.length) (h2 : i < ds.length), R.rd w0 css[i] ds[i]) : ∀ c ∈ css, c.length = R.width := by
  intro c hc
  obtain ⟨i, hi, rfl⟩ := List.getElem_of_mem hc
  exact R.rd_len (hel i hi (by omega))
theorem FrR.ones {css : List (List Value)} (hl : css.length = ds.length) (hel : ∀ i (h1 : i < css.length) (h2 : i < ds.length), R.rd w0 css[i] ds[i]) : ∀ u ∈ css.flatten, u.oneCell' = true := by
  intro u hu
  obtain ⟨c, hc, hu⟩ := List.mem_flatten.1 hu
  obtain ⟨i, hi, rfl⟩ := List.getElem_of_mem hc
  exact R.rd_one (hel i hi (by omega)) u hu
theorem FrR.rd (h : FrR e R w0 w B v ds) (hb : Below w0.heap.size w0 w) : RdR R w v ds := by
  obtain ⟨css, hl, hO, hel⟩ := h
  have hlen := FrR.lens hl hel
  have hO' := hO
  obtain ⟨hl1, ⟨rfl, h0⟩ | ⟨g, c, cur, rfl, hbb, hgc, hnc, hcm, hcs, htake⟩⟩ := hO
  · have : ds = [] := List.eq_nil_of_length_eq_zero h0
    subst this; exact RdR.nil R w
  · refine ⟨some ⟨g, 0, none⟩, ds.length, c, rfl, rfl, hnc, hcm, .inr (.inr ⟨g, 0, rfl, fun i hi => ?_⟩)⟩
    refine ⟨css[i]'(by omega), fun k hk => ?_, R.rd_below (hel i (by omega) hi) hb⟩
    have h1 := World.ownsRow.cellAt hO' (i * R.width + k) (by
      have : (i + 1) * R.width ≤ ds.length * R.width := Nat.mul_le_mul_right _ hi
      rw [Nat.succ_mul] at this; omega)
    rw [Nat.zero_add, h1, flat_get hlen hk, List.getElem?_eq_getElem (by omega)]
    rfl
theorem FrR.nil (e : TypeId) (R : RowK δ) (w0 w : World) (B : Nat) : FrR e R w0 w B (.slice none 0 0) [] :=
  ⟨[], rfl, by simpa using World.ownsRow_nil w B e R.width, fun i h1 _ => by simp at h1⟩
theorem FrR.below (h : FrR e R w0 w B v ds) (hb : Below w.heap.size w w') : FrR e R w0 w' B v ds := by
  obtain ⟨css, hl, hO, hel⟩ := h
  exact ⟨css, hl, ownsRow_frame hO fun g hg => hb.block g (hO.lt g hg).2, hel⟩
theorem FrR.frame (h : FrR e R w0 w B v ds) (hf : ∀ g, v.ownBlock = some g → w'.heap[g]? = w.heap[g]?) : FrR e R w0 w' B v ds := by
  obtain ⟨css, hl, hO, hel⟩ := h
  exact ⟨css, hl, ownsRow_frame hO hf, hel⟩
theorem FrR.lt (h : FrR e R w0 w B v ds) : ∀ g, v.ownBlock = some g → B ≤ g ∧ g < w.heap.size := by
  obtain ⟨css, hl, hO, hel⟩ := h
  exact fun g hg => hO.lt g hg
theorem FrR.mono {B' : Nat} (h : FrR e R w0 w B v ds) (hB : B' ≤ B) : FrR e R w0 w B' v ds := by
  obtain ⟨css, hl, hO, hel⟩ := h
  exact ⟨css, hl, ownsRow_mono hO hB, hel⟩
end
end Go.Proofs.Ytegomgnlhcbmfaa
namespace Go.Proofs.Ytegomgnlhcbmfaa
open Go.RowKit
set_option linter.unusedSimpArgs false
set_option linter.unusedVariables false

theorem infoDl : ∃ i, Try.prog.info? 66 = some i ∧ i.zero = some (.agg #[.slice none 0 0, .slice none 0 0]) ∧ i.size = 2 ∧ i.bytes ≤ 1000 := by
  have h : (Try.prog.info? 66).map (fun i => (i.zero, i.size, decide (i.bytes ≤ 1000))) = some (some (.agg #[.slice none 0 0, .slice none 0 0]), 2, true) := by kernel_rfl
  obtain ⟨i, hi, hz⟩ := Option.map_eq_some_iff.1 h
  simp only [Prod.mk.injEq] at hz
  exact ⟨i, hi, hz.1, hz.2.1, of_decide_eq_true hz.2.2⟩
/-- a row of dealings: each in rows of its own -/
def OwnDs (w : World) (B : Nat) (v : Value) (ds : List DealingD) : Prop :=
  ∃ css : List (List Value), css.length = ds.length ∧ w.ownsRow B 66 2 v ds.length css.flatten ∧
    ∀ i (h1 : i < css.length) (h2 : i < ds.length), ∃ x y, css[i] = [x, y] ∧ OwnI w B x ds[i].c ∧ OwnI w B y ds[i].s
section
variable {w w' : World} {B : Nat} {v : Value} {ds : List DealingD} {d : DealingD}
theorem OwnDs.nil (w : World) (B : Nat) : OwnDs w B (.slice none 0 0) [] :=
  ⟨[], rfl, by simpa using World.ownsRow_nil w B 66 2, fun i h1 _ => by simp at h1⟩
theorem OwnDs.lens {css : List (List Value)} (hl : css.length = ds.length)
    (hel : ∀ i (h1 : i < css.length) (h2 : i < ds.length), ∃ x y, css[i] = [x, y] ∧ OwnI w B x ds[i].c ∧ OwnI w B y ds[i].s) : ∀ c ∈ css, c.length = 2 := by
  intro c hc
  obtain ⟨i, hi, rfl⟩ := List.getElem_of_mem hc
  obtain ⟨x, y, e, _⟩ := hel i hi (by omega)
  rw [e]; rfl
theorem rowDl {x y : Value} (h1 : Ints w x d.c) (h2 : Ints w y d.s) : rDealing.rd w [x, y] d := by
  obtain ⟨a1, n1, c1, rfl⟩ := h1.shape
  obtain ⟨a2, n2, c2, rfl⟩ := h2.shape
  obtain ⟨vs, e, h⟩ := rdDealing.2 ⟨_, _, _, _, _, _, rfl, h1, h2⟩
  obtain rfl : vs = [.slice a1 n1 c1, .slice a2 n2 c2] := by have h := Value.agg.inj e; simpa using (congrArg Array.toList h).symm
  exact h
theorem OwnDs.rd (h : OwnDs w B v ds) : RdR rDealing w v ds := by
  obtain ⟨css, hl, hO, hel⟩ := h
  refine FrR.rd (e := 66) (w0 := w) (B := B) ⟨css, hl, hO, fun i h1 h2 => ?_⟩ (Below.refl _ _)
  obtain ⟨x, y, e, q1, q2⟩ := hel i h1 h2
  rw [e]
  exact rowDl q1.ints q2.ints
theorem OwnDs.frame (h : OwnDs w B v ds) (hs : w.heap.size ≤ w'.heap.size) (hb : ∀ k, B ≤ k → k < w.heap.size → w'.heap[k]? = w.heap[k]?) : OwnDs w' B v ds := by
  obtain ⟨css, hl, hO, hel⟩ := h
  refine ⟨css, hl, ownsRow_frame hO fun g hg => hb g (hO.lt g hg).1 (hO.lt g hg).2, fun i h1 h2 => ?_⟩
  obtain ⟨x, y, e, q1, q2⟩ := hel i h1 h2
  exact ⟨x, y, e, q1.since hs hb, q2.since hs hb⟩
theorem OwnDs.below (h : OwnDs w B v ds) (hb : Below w.heap.size w w') : OwnDs w' B v ds := h.frame hb.size fun k _ hk => hb.block k hk
theorem OwnDs.within {lo hi : Nat} (h : OwnDs w B v ds) (hw : Within lo hi w w') (hd : hi ≤ B) : OwnDs w' B v ds := h.frame hw.size fun k hk hlt => hw.block k hlt (.inr (by omega))
theorem Since.of_ownDs {B' : Nat} (h : OwnDs w B v ds) (hB : B' ≤ B) : Since B' w (fun u => RdR rDealing u v ds) := fun u hs hb => (h.frame hs fun k hk hlt => hb k (by omega) hlt).rd
theorem OwnI.apartDs {l : List Int} {n : Nat} {xs : List Value} {q : Value} (h : OwnI w B q l) (hO : w.ownsRow B 66 2 v n xs) : q.ownBlock = none ∨ q.ownBlock ≠ v.ownBlock := by
  cases e : q.ownBlock with
  | none => exact .inl rfl
  | some k =>
    refine .inr fun e2 => ?_
    rcases hO.2 with ⟨rfl, _⟩ | ⟨g, c, cur, rfl, hb, hg, _⟩
    · cases e2
    · have hk : some k = some g := e2
      cases hk
      rcases h.2.2 with h2 | ⟨g', c', cur', rfl, hb', hg', _⟩
      · rw [h2.1] at e; cases e
      · cases e
        rw [hg] at hg'
        injection hg' with hg'
        injection hg' with h1 h2 h3
        exact absurd h2 (by decide)
theorem run_append_Ds {b : Nat} {x y : Value} (h : OwnDs w B v ds) (hx : OwnI w B x d.c) (hy : OwnI w B y d.s)
    (hc0 : w.cell? ⟨b, 0, none⟩ = some x) (hc1 : w.cell? ⟨b, 1, none⟩ = some y) (hB : B ≤ w.heap.size) (hlen : ds.length ≤ 1000000) (ty : TypeId) :
    ∃ v' w', (Builtin.append_ #[62, 62] ty #[v, .slice (some ⟨b, 0, none⟩) 1 1]).run Try.prog w = .ok v' w' ∧ OwnDs w' B v' (ds ++ [d]) ∧ Below B w w' := by
  obtain ⟨css, hl, hO, hel⟩ := h
  obtain ⟨i, hi, hzr, hsz, hby⟩ := infoDl
  have hfl := flat_len (OwnDs.lens hl hel)
  obtain ⟨a1, c1, e1⟩ := hx.shape
  obtain ⟨a2, c2, e2⟩ := hy.shape
  have hnews : ∀ j t, [x, y][j]? = some t → w.cell? ((⟨b, 0, none⟩ : Addr).add j) = some t := by
    intro j t ht
    rw [Addr.add_lit, Nat.zero_add]
    rcases j with _ | _ | j
    · simp at ht; subst ht; exact hc0
    · simp at ht; subst ht; exact hc1
    · simp at ht
  have hones : ∀ t ∈ [x, y], t.oneCell' = true := by
    intro t ht
    simp only [List.mem_cons, List.not_mem_nil, or_false] at ht
    rcases ht with rfl | rfl
    · rw [e1]; rfl
    · rw [e2]; rfl
  obtain ⟨v', w', hr, h1, h2, _⟩ := run_append_own (P := Try.prog) w B 62 ty 66 i _ 2 i.bytes Try.underlying62 hi hzr hsz rfl rfl (by decide) v ds.length css.flatten hO ⟨b, 0, none⟩ 1 1 [x, y] (by simp) hnews hones (by unfold maxLen; omega) (by
    have : (ds.length + 1) * i.bytes ≤ 1000000000 * 1000 := Nat.mul_le_mul (by omega) hby
    omega) hB
  refine ⟨v', w', hr, ⟨css ++ [[x, y]], by simp [hl], by simpa [List.flatten_append] using h1, fun k k1 k2 => ?_⟩, (Below.refl B w).grown h2 hB (fun k hk => (hO.lt k hk).1)⟩
  by_cases hk : k < ds.length
  · rw [List.getElem_append_left (by omega), List.getElem_append_left hk]
    obtain ⟨x', y', e, q1, q2⟩ := hel k (by omega) hk
    exact ⟨x', y', e, q1.kept h2 (q1.apartDs hO), q2.kept h2 (q2.apartDs hO)⟩
  · have hk' : k = ds.length := by simp at k2; omega
    subst hk'
    refine ⟨x, y, ?_, ?_, ?_⟩
    · rw [List.getElem_append_right (by omega)]; simp [hl]
    · rw [List.getElem_append_right (by omega)]; simp only [Nat.sub_self, List.getElem_cons_zero]; exact hx.kept h2 (hx.apartDs hO)
    · rw [List.getElem_append_right (by omega)]; simp only [Nat.sub_self, List.getElem_cons_zero]; exact hy.kept h2 (hy.apartDs hO)
theorem wpList_append_Ds {ops : Array Oper} {rest : List Oper} {o : Oper} {a : Act} {Q : Exit → Act → World → Prop} (hg : o.guard = none) (s y0 : Operand)
    (ho : o.op = .call { callee := .builtin .append, args := #[s, y0], argTypes := #[62, 62] })
    {b : Nat} {x y : Value} (hs : a.eval s = v) (he : a.eval y0 = .slice (some ⟨b, 0, none⟩) 1 1) (h : OwnDs w B v ds) (hx : OwnI w B x d.c) (hy : OwnI w B y d.s)
    (hbx : BoxN w b 66 [x, y]) (hB : B ≤ w.heap.size) (hlen : ds.length ≤ 1000000)
    (hK : ∀ v' w', OwnDs w' B v' (ds ++ [d]) → Below B w w' → wpList Try.prog ops Q rest (a.put o.dst v') w') : wpList Try.prog ops Q (o :: rest) a w := by
  obtain ⟨v', w', hr, h1, h3⟩ := run_append_Ds h hx hy (hbx.cell (i := 0) rfl) (hbx.cell (i := 1) rfl) hB hlen o.type
  refine wpList_plain hg fun K hK' => ?_
  unfold Oper.wp execOp
  simp only [ho, resolve, invoke, builtin, Sem.run_bind, Sem.run_pure, Result.andThen_ok, List.map_toArray, List.map_cons, List.map_nil, hs, he, hr]
  exact hK' _ _ (hK v' w' h1 h3)
end
end Go.Proofs.Ytegomgnlhcbmfaa
