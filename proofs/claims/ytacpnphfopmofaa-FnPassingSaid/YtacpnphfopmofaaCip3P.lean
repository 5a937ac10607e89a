/- Draws: proofs that are sometimes changed, in rows of their own: walks (printed by gen_spoilo.py). -/
import Derived.Test.YtacpnphfopmofaaInvP
import Derived.Test.YtacpnphfopmofaaBgP
import Derived.Test.YtacpnphfopmofaaDer5P
import Derived.Test.YtacpnphfopmofaaOpLP
import Derived.Test.YtacpnphfopmofaaBaP
import Derived.Test.YtacpnphfopmofaaRegPP
namespace Go.Proofs.Ytacpnphfopmofaa
open Go.RowKit
set_option linter.unusedSimpArgs false
set_option linter.unusedVariables false

set_option maxRecDepth 100000 in
set_option maxHeartbeats 4000000 in
theorem spec_spoiltProofO (w0 : World) (g : Nat) (n P Q G : Int) (v0 v1 v2 : Value) (l0 l1 l2 : List Int) (w : World) (h : Cur w0 w g n) (hb : Below w0.heap.size w0 w) (hn : n ≤ 500000000000000) (hgr : GrB ⟨P, Q, G⟩) (h0 : Ints w v0 l0) (h1 : Ints w v1 l1) (h2 : Ints w v2 l2) (k0 : l0.length ≤ 30) (k1 : l1.length ≤ 30) (k2 : l2.length ≤ 30) :
    Calls Try.prog 83 #[.pointer (some ⟨g, 0, none⟩), .agg #[.int .i64 P, .int .i64 Q, .int .i64 G], .agg #[v0, v1, v2]] w fun e w' => (∃ (va vb vc : Value) (la lb lc : List Int), e = .returned (.agg #[va, vb, vc]) ∧ (OwnI w' w.heap.size va la ∧ la.length ≤ 31) ∧ (OwnI w' w.heap.size vb lb ∧ lb.length ≤ 31) ∧ (OwnI w' w.heap.size vc lc ∧ lc.length ≤ 31)) ∧ Cur w0 w' g (n + 100000) ∧ Within g (g + 1) w w' := by
  have HGR := Lib.hid hgr
  have HBB := Lib.hid hb
  have hge := h.ge
  have hgw := h.lt
  clear hgr hb
  obtain ⟨d0, n0, e0, rfl⟩ := h0.shape
  have HE0 := Lib.hid h0.len
  have HA0 := Lib.hid h0
  replace k0 : n0 ≤ 30 := by have := HE0.out; omega
  clear h0
  obtain ⟨d1, n1, e1, rfl⟩ := h1.shape
  have HE1 := Lib.hid h1.len
  have HA1 := Lib.hid h1
  replace k1 : n1 ≤ 30 := by have := HE1.out; omega
  clear h1
  obtain ⟨d2, n2, e2, rfl⟩ := h2.shape
  have HE2 := Lib.hid h2.len
  have HA2 := Lib.hid h2
  replace k2 : n2 ≤ 30 := by have := HE2.out; omega
  clear h2
  obtain ⟨W, hW⟩ : ∃ W, W = ((w.alloc (.cells #[.int .i64 P, .int .i64 Q, .int .i64 G] 24)).alloc (.cells #[.slice d0 n0 e0, .slice d1 n1 e1, .slice d2 n2 e2] 115)).alloc (.cells #[.slice none 0 0, .slice none 0 0, .slice none 0 0] 115) := ⟨_, rfl⟩
  have hbW : Below w.heap.size w W := by rw [hW]; (repeat (first | exact Below.refl _ _ | assumption | refine Below.drew ?_ | refine Below.alloc ?_ (by first | (simp; done) | (simp; omega)) _ | refine Below.setCell ?_ (by first | (simp; done) | (simp; omega)) _))
  have HZg : Hid (BoxN W w.heap.size 24 [.int .i64 P, .int .i64 Q, .int .i64 G]) := by unfold Hid; rw [hW]; exact ((BoxN.new w [.int .i64 P, .int .i64 Q, .int .i64 G] 24).alloc _).alloc _
  have HP : Hid (BoxN W (w.heap.size + 1) 115 [.slice d0 n0 e0, .slice d1 n1 e1, .slice d2 n2 e2]) := by unfold Hid; rw [hW]; have h := (BoxN.new (w.alloc (.cells #[.int .i64 P, .int .i64 Q, .int .i64 G] 24)) [.slice d0 n0 e0, .slice d1 n1 e1, .slice d2 n2 e2] 115).alloc (.cells #[.slice none 0 0, .slice none 0 0, .slice none 0 0] 115); simpa using h
  have HX : Hid (BoxN W (w.heap.size + 2) 115 [.slice none 0 0, .slice none 0 0, .slice none 0 0]) := by unfold Hid; rw [hW]; have h := BoxN.new ((w.alloc (.cells #[.int .i64 P, .int .i64 Q, .int .i64 G] 24)).alloc (.cells #[.slice d0 n0 e0, .slice d1 n1 e1, .slice d2 n2 e2] 115)) [.slice none 0 0, .slice none 0 0, .slice none 0 0] 115; simpa using h
  have HSW : Hid (W.heap.size = w.heap.size + 3) := by unfold Hid; rw [hW]; simp
  have hsW : W.heap.size = w.heap.size + 3 := HSW.out
  have HC := Lib.hid (h.keep hbW)
  have HW := Lib.hid (Within.of_below hbW : Within g (g + 1) w W)
  replace HA0 := Lib.hid (HA0.out.below hbW)
  replace HA1 := Lib.hid (HA1.out.below hbW)
  replace HA2 := Lib.hid (HA2.out.below hbW)
  clear h hsW
  go_enter Try.func83, Try.ntmps83
  go_wp2_with fail
  rw [← hW]
  clear hW hbW
  have p0 := HP.out.cell (i := 0) rfl
  have p1 := HP.out.cell (i := 1) rfl
  have p2 := HP.out.cell (i := 2) rfl
  refine wp_region_noPanic ?_
  refine wp_region_V (fun w' => w'.cell? ⟨w.heap.size + 1, 0, none⟩ = some (.slice d0 n0 e0) ∧ w'.cell? ⟨w.heap.size + 1, 1, none⟩ = some (.slice d1 n1 e1) ∧ w'.cell? ⟨w.heap.size + 1, 2, none⟩ = some (.slice d2 n2 e2)) 13 9 (.rd 0 (.rd 1 (.rd 3 (.rd 4 (.rd 6 (.rd 7 (.alt 2 (.alt 5 (.alt 8 .done .nil) .nil) .nil))))))) [9, 10] (by kernel_rfl) (by kernel_rfl) rfl (fun _ _ _ _ _ h => h) ⟨box_at p0 (Below.refl _ _).drew, box_at p1 (Below.refl _ _).drew, box_at p2 (Below.refl _ _).drew⟩ ?_
  simp only [pickV, pickN, List.getElem?_cons_zero, List.getElem?_cons_succ]
  repeat (refine' wpV_read _ (by kernel_rfl) (fun w' hS' => ?_) ?_; rotate_left; · ((try dsimp only at hS'); go_simp; (try with_reducible rfl)); (try simp only [Act.put, List.setIfInBounds_toArray, List.set_cons_zero, List.set_cons_succ]))
  obtain ⟨ud, hud⟩ : ∃ u, u = W.drew := ⟨_, rfl⟩
  have hdr : Below W.heap.size W ud := by rw [hud]; exact (Below.refl _ _).drew
  rw [← hud]
  clear hud
  replace HZg := Lib.hid (HZg.out.below hdr)
  replace HP := Lib.hid (HP.out.below hdr)
  replace HX := Lib.hid (HX.out.below hdr)
  replace HA0 := Lib.hid (HA0.out.below hdr)
  replace HA1 := Lib.hid (HA1.out.below hdr)
  replace HA2 := Lib.hid (HA2.out.below hdr)
  replace HC := Lib.hid (HC.out.keep hdr)
  replace HW := Lib.hid (HW.out.trans (Within.of_below hdr))
  have hs_hdr := hdr.size
  clear hdr p0 p1 p2
  have p0 := HP.out.cell (i := 0) rfl
  have p1 := HP.out.cell (i := 1) rfl
  have p2 := HP.out.cell (i := 2) rfl
  refine wpV_do (by kernel_rfl) (fun K hK => ?_)
  go_simp
  go_at_call_of 151 (Value.slice d0 n0 e0)
  refine (spec_l1Own _ l0 _ HA0.out (by have := HE0.out; omega)).mono ?_
  rintro e t0 ⟨x0, rfl, hown, hb0⟩
  replace HZg := Lib.hid (HZg.out.below hb0)
  replace HP := Lib.hid (HP.out.below hb0)
  replace HX := Lib.hid (HX.out.below hb0)
  replace HA0 := Lib.hid (HA0.out.below hb0)
  replace HA1 := Lib.hid (HA1.out.below hb0)
  replace HA2 := Lib.hid (HA2.out.below hb0)
  replace HC := Lib.hid (HC.out.keep hb0)
  replace HW := Lib.hid (HW.out.trans (Within.of_below hb0))
  have hs_hb0 := hb0.size
  clear hb0 p0 p1 p2
  have p0 := HP.out.cell (i := 0) rfl
  have p1 := HP.out.cell (i := 1) rfl
  have p2 := HP.out.cell (i := 2) rfl
  have HO0 := Lib.hid (LowI.of hown (Nat.le_refl _))
  clear hown
  refine hK.out _ _ ⟨p0, p1, p2⟩ (fun _ => ?_)
  clear hK K
  (try simp only [Act.put, List.setIfInBounds_toArray, List.set_cons_zero, List.set_cons_succ])
  refine wpV_do (by kernel_rfl) (fun K hK => ?_)
  go_simp
  go_at_call_of 151 (Value.slice d1 n1 e1)
  refine (spec_l1Own _ l1 _ HA1.out (by have := HE1.out; omega)).mono ?_
  rintro e t1 ⟨x1, rfl, hown, hb1⟩
  replace HZg := Lib.hid (HZg.out.below hb1)
  replace HP := Lib.hid (HP.out.below hb1)
  replace HX := Lib.hid (HX.out.below hb1)
  replace HA0 := Lib.hid (HA0.out.below hb1)
  replace HA1 := Lib.hid (HA1.out.below hb1)
  replace HA2 := Lib.hid (HA2.out.below hb1)
  replace HO0 := Lib.hid (HO0.out.below hb1)
  replace HC := Lib.hid (HC.out.keep hb1)
  replace HW := Lib.hid (HW.out.trans (Within.of_below hb1))
  have hs_hb1 := hb1.size
  clear hb1 p0 p1 p2
  have p0 := HP.out.cell (i := 0) rfl
  have p1 := HP.out.cell (i := 1) rfl
  have p2 := HP.out.cell (i := 2) rfl
  have HO1 := Lib.hid (LowI.of hown (Nat.le_refl _))
  clear hown
  refine hK.out _ _ ⟨p0, p1, p2⟩ (fun _ => ?_)
  clear hK K
  (try simp only [Act.put, List.setIfInBounds_toArray, List.set_cons_zero, List.set_cons_succ])
  refine wpV_do (by kernel_rfl) (fun K hK => ?_)
  go_simp
  go_at_call_of 151 (Value.slice d2 n2 e2)
  refine (spec_l1Own _ l2 _ HA2.out (by have := HE2.out; omega)).mono ?_
  rintro e t2 ⟨x2, rfl, hown, hb2⟩
  replace HZg := Lib.hid (HZg.out.below hb2)
  replace HP := Lib.hid (HP.out.below hb2)
  replace HX := Lib.hid (HX.out.below hb2)
  replace HA0 := Lib.hid (HA0.out.below hb2)
  replace HA1 := Lib.hid (HA1.out.below hb2)
  replace HA2 := Lib.hid (HA2.out.below hb2)
  replace HO0 := Lib.hid (HO0.out.below hb2)
  replace HO1 := Lib.hid (HO1.out.below hb2)
  replace HC := Lib.hid (HC.out.keep hb2)
  replace HW := Lib.hid (HW.out.trans (Within.of_below hb2))
  have hs_hb2 := hb2.size
  clear hb2 p0 p1 p2
  have p0 := HP.out.cell (i := 0) rfl
  have p1 := HP.out.cell (i := 1) rfl
  have p2 := HP.out.cell (i := 2) rfl
  have HO2 := Lib.hid (LowI.of hown (Nat.le_refl _))
  clear hown
  refine hK.out _ _ ⟨p0, p1, p2⟩ (fun _ => ?_)
  clear hK K
  (try simp only [Act.put, List.setIfInBounds_toArray, List.set_cons_zero, List.set_cons_succ])
  refine wpV_done ?_
  clear HA0 HA1 HA2
  obtain ⟨a0, c0, rfl⟩ := HO0.out.own.shape
  rw [HE0.out] at HO0 ⊢
  obtain ⟨a1, c1, rfl⟩ := HO1.out.own.shape
  rw [HE1.out] at HO1 ⊢
  obtain ⟨a2, c2, rfl⟩ := HO2.out.own.shape
  rw [HE2.out] at HO2 ⊢
  have pf := fun j => HP.out.frozen j
  have hsW := HSW.out
  go_wp2_with fail
  refine NoPanic.normal ?_
  obtain ⟨Y, hY⟩ : ∃ Y, Y = ((t2.setCell ⟨w.heap.size + 1, 0, none⟩ (.slice a0 n0 c0)).setCell ⟨w.heap.size + 1, 1, none⟩ (.slice a1 n1 c1)).setCell ⟨w.heap.size + 1, 2, none⟩ (.slice a2 n2 c2) := ⟨_, rfl⟩
  have NP : Hid (BoxN Y (w.heap.size + 1) 115 [.slice a0 n0 c0, .slice a1 n1 c1, .slice a2 n2 c2]) := by unfold Hid; rw [hY]; exact (((HP.out.set 0 (.slice a0 n0 c0)).set 1 (.slice a1 n1 c1)).set 2 (.slice a2 n2 c2))
  have NZ : Hid (BoxN Y w.heap.size 24 [.int .i64 P, .int .i64 Q, .int .i64 G]) := by unfold Hid; rw [hY]; exact (((HZg.out.otherN (b' := w.heap.size + 1) (by omega) 0 (.slice a0 n0 c0)).otherN (b' := w.heap.size + 1) (by omega) 1 (.slice a1 n1 c1)).otherN (b' := w.heap.size + 1) (by omega) 2 (.slice a2 n2 c2))
  have NX : Hid (BoxN Y (w.heap.size + 2) 115 [.slice none 0 0, .slice none 0 0, .slice none 0 0]) := by unfold Hid; rw [hY]; exact (((HX.out.other (b' := w.heap.size + 1) (by omega) 0 (.slice a0 n0 c0)).other (b' := w.heap.size + 1) (by omega) 1 (.slice a1 n1 c1)).other (b' := w.heap.size + 1) (by omega) 2 (.slice a2 n2 c2))
  have NC : Hid (Cur w0 Y g n) := by unfold Hid; rw [hY]; exact (((HC.out.setNew (b := w.heap.size + 1) (by omega) 0 (.slice a0 n0 c0)).setNew (b := w.heap.size + 1) (by omega) 1 (.slice a1 n1 c1)).setNew (b := w.heap.size + 1) (by omega) 2 (.slice a2 n2 c2))
  have NW : Hid (Within g (g + 1) w Y) := by unfold Hid; rw [hY]; exact (((HW.out.setNew (b := w.heap.size + 1) (by omega) 0 (.slice a0 n0 c0)).setNew (b := w.heap.size + 1) (by omega) 1 (.slice a1 n1 c1)).setNew (b := w.heap.size + 1) (by omega) 2 (.slice a2 n2 c2))
  have hsY : Y.heap.size = t2.heap.size := by rw [hY]; simp
  have NO0 : Hid (LowI Y ud.heap.size t0.heap.size (.slice a0 n0 c0) l0) := by unfold Hid; rw [hY]; exact (((HO0.out.other (b := w.heap.size + 1) (.inl (by omega)) 0 (.slice a0 n0 c0)).other (b := w.heap.size + 1) (.inl (by omega)) 1 (.slice a1 n1 c1)).other (b := w.heap.size + 1) (.inl (by omega)) 2 (.slice a2 n2 c2))
  have NO1 : Hid (LowI Y t0.heap.size t1.heap.size (.slice a1 n1 c1) l1) := by unfold Hid; rw [hY]; exact (((HO1.out.other (b := w.heap.size + 1) (.inl (by omega)) 0 (.slice a0 n0 c0)).other (b := w.heap.size + 1) (.inl (by omega)) 1 (.slice a1 n1 c1)).other (b := w.heap.size + 1) (.inl (by omega)) 2 (.slice a2 n2 c2))
  have NO2 : Hid (LowI Y t1.heap.size t2.heap.size (.slice a2 n2 c2) l2) := by unfold Hid; rw [hY]; exact (((HO2.out.other (b := w.heap.size + 1) (.inl (by omega)) 0 (.slice a0 n0 c0)).other (b := w.heap.size + 1) (.inl (by omega)) 1 (.slice a1 n1 c1)).other (b := w.heap.size + 1) (.inl (by omega)) 2 (.slice a2 n2 c2))
  rw [← hY]
  clear hY HP HZg HX HC HW HO0 HO1 HO2 p0 p1 p2 pf
  have HP := NP
  have HZg := NZ
  have HX := NX
  have HC := NC
  have HW := NW
  have HO0 := NO0
  have HO1 := NO1
  have HO2 := NO2
  clear NP NZ NX NC NW NO0 NO1 NO2
  try (go_wp2_with fail)
  refine (spec_pick w0 g _ 12 _ HC.out (HW.out.belowOf HBB.out hge) (by omega)).mono ?_
  rintro e u3 ⟨⟨x3, rfl, x3l, x3u, x3m, _⟩, hc, hw⟩
  clear x3m
  have hsz3 := hw.size
  replace HZg := Lib.hid (HZg.out.kept hw (.inr (by omega)))
  replace HP := Lib.hid (HP.out.kept hw (.inr (by omega)))
  replace HX := Lib.hid (HX.out.kept hw (.inr (by omega)))
  replace HO0 := Lib.hid (HO0.out.within hw (by omega))
  replace HO1 := Lib.hid (HO1.out.within hw (by omega))
  replace HO2 := Lib.hid (HO2.out.within hw (by omega))
  replace HW := Lib.hid (HW.out.trans hw)
  replace HC := Lib.hid (hc.mono (n' := n + 100) (by omega))
  clear hc hw
  have hpl : w.heap.size + 2 < u3.heap.size := HX.out.lt
  rcases (by omega : x3 = 0 ∨ x3 = 1 ∨ x3 = 2 ∨ x3 = 3 ∨ x3 = 4 ∨ (x3 ≠ 0 ∧ x3 ≠ 1 ∧ x3 ≠ 2 ∧ x3 ≠ 3 ∧ x3 ≠ 4)) with rfl | rfl | rfl | rfl | rfl | ⟨i0, i1, i2, i3, i4⟩
  · by_cases hz : n2 = 0
    · have HZ0 : Hid (n2 = 0) := hz
      have hzi : decide ((0 : Int) < (n2 : Int)) = false := decide_eq_false (by omega)
      have hzj : decide (0 < n2) = false := decide_eq_false (by omega)
      have hzk : ¬ 0 < n2 := by omega
      clear hz
      have x0 := HX.out.cell (i := 0) rfl
      have x1 := HX.out.cell (i := 1) rfl
      have x2 := HX.out.cell (i := 2) rfl
      have fx := fun j => HX.out.frozen j
      have p0 := HP.out.cell (i := 0) rfl
      have p1 := HP.out.cell (i := 1) rfl
      have p2 := HP.out.cell (i := 2) rfl
      go_wp2_with fail
      have HXF := Lib.hid (((HX.out.set 0 (.slice a0 n0 c0)).set 1 (.slice a1 n1 c1)).set 2 (.slice a2 n2 c2))
      have t_0 := HXF.out.cell (i := 0) rfl
      have t_1 := HXF.out.cell (i := 1) rfl
      have t_2 := HXF.out.cell (i := 2) rfl
      try (go_wp2_with fail)
      refine bodyPost_ret (v := .agg #[.slice a0 n0 c0, .slice a1 n1 c1, .slice a2 n2 c2]) (by simp [results, Try.results83, go_sem, t_0, t_1, t_2]) rfl ⟨⟨_, _, _, l0, l1, l2, rfl, ⟨(((HO0.out.other (b := w.heap.size + 2) (.inl (by omega)) 0 (.slice a0 n0 c0)).other (b := w.heap.size + 2) (.inl (by omega)) 1 (.slice a1 n1 c1)).other (b := w.heap.size + 2) (.inl (by omega)) 2 (.slice a2 n2 c2)).own.mono (by omega), by have := HE0.out; omega⟩, ⟨(((HO1.out.other (b := w.heap.size + 2) (.inl (by omega)) 0 (.slice a0 n0 c0)).other (b := w.heap.size + 2) (.inl (by omega)) 1 (.slice a1 n1 c1)).other (b := w.heap.size + 2) (.inl (by omega)) 2 (.slice a2 n2 c2)).own.mono (by omega), by have := HE1.out; omega⟩, ⟨(((HO2.out.other (b := w.heap.size + 2) (.inl (by omega)) 0 (.slice a0 n0 c0)).other (b := w.heap.size + 2) (.inl (by omega)) 1 (.slice a1 n1 c1)).other (b := w.heap.size + 2) (.inl (by omega)) 2 (.slice a2 n2 c2)).own.mono (by omega), by have := HE2.out; omega⟩⟩, (((HC.out.setNew (b := w.heap.size + 2) (by omega) 0 (.slice a0 n0 c0)).setNew (b := w.heap.size + 2) (by omega) 1 (.slice a1 n1 c1)).setNew (b := w.heap.size + 2) (by omega) 2 (.slice a2 n2 c2)).mono (by omega), (((HW.out.setNew (b := w.heap.size + 2) (by omega) 0 (.slice a0 n0 c0)).setNew (b := w.heap.size + 2) (by omega) 1 (.slice a1 n1 c1)).setNew (b := w.heap.size + 2) (by omega) 2 (.slice a2 n2 c2))⟩
    · have hnz : 0 < n2 := by omega
      have hzi : decide ((0 : Int) < (n2 : Int)) = true := decide_eq_true (by omega)
      obtain ⟨rb, rfl, hrb, _, _⟩ := HO2.out.own.at_ (by have := HE2.out; omega)
      have hrt : rb < t2.heap.size := HO2.out.lt rb rfl
      have q0 := HP.out.cell (i := 2) rfl
      go_wp2_with fail
      clear q0
      have z_0_0 := HZg.out.cell (i := 0) rfl
      have z_0_1 := HZg.out.cell (i := 1) rfl
      have z_0_2 := HZg.out.cell (i := 2) rfl
      have z_1_0 := HP.out.cell (i := 0) rfl
      have z_1_1 := HP.out.cell (i := 1) rfl
      have z_1_2 := HP.out.cell (i := 2) rfl
      have z_2_0 := HX.out.cell (i := 0) rfl
      have z_2_1 := HX.out.cell (i := 1) rfl
      have z_2_2 := HX.out.cell (i := 2) rfl
      try (go_wp2_with fail)
      refine wp_region_noPanic ?_
      refine wp_region_Q (Within g (g + 1)) (DrawS w0 u3 g _ 5000 (fun w' => w'.cell? ⟨w.heap.size, 0, none⟩ = some (.int .i64 P) ∧ w'.cell? ⟨w.heap.size, 1, none⟩ = some (.int .i64 Q) ∧ w'.cell? ⟨w.heap.size, 2, none⟩ = some (.int .i64 G) ∧ w'.cell? ⟨(w.heap.size + 1), 0, none⟩ = some (.slice a0 n0 c0) ∧ w'.cell? ⟨(w.heap.size + 1), 1, none⟩ = some (.slice a1 n1 c1) ∧ w'.cell? ⟨(w.heap.size + 1), 2, none⟩ = some (.slice (some ⟨rb, 0, none⟩) n2 c2) ∧ w'.cell? ⟨(w.heap.size + 2), 0, none⟩ = some (.slice none 0 0) ∧ w'.cell? ⟨(w.heap.size + 2), 1, none⟩ = some (.slice none 0 0) ∧ w'.cell? ⟨(w.heap.size + 2), 2, none⟩ = some (.slice none 0 0))) 12 [(0, []), (1, [0]), (2, []), (3, []), (4, [1, 0]), (5, []), (6, []), (7, [1, 0]), (8, [6, 3])] [9] (by kernel_rfl) (by kernel_rfl) (by kernel_rfl) rfl (fun _ _ _ _ h => h) (DrawS.good _ _ _ _ _ _) ⟨(Within.refl _ _ _).drew, by simpa using HC.out.keep (Below.refl _ _).drew, ⟨box_at z_0_0 (Below.refl _ _).drew, box_at z_0_1 (Below.refl _ _).drew, box_at z_0_2 (Below.refl _ _).drew, box_at z_1_0 (Below.refl _ _).drew, box_at z_1_1 (Below.refl _ _).drew, box_at z_1_2 (Below.refl _ _).drew, box_at z_2_0 (Below.refl _ _).drew, box_at z_2_1 (Below.refl _ _).drew, box_at z_2_2 (Below.refl _ _).drew⟩⟩ ?_
      simp only [pickP, pickN, List.getElem?_cons_zero, List.getElem?_cons_succ]
      iterate 4 (refine' chainQ_read (DrawS.good _ _ _ _ _ _) _ rfl rfl (fun m w' hm' hS' => ?_) ?_; rotate_left; · (simp only [lookP, allP, Act.put, List.getElem?_cons_zero, List.getElem?_cons_succ, List.setIfInBounds_toArray, List.set_cons_zero, List.set_cons_succ]; (try dsimp only [DrawS] at hS'); go_simp; (try with_reducible rfl)))
      -- 4: call { callee := value (func 72), args := #[t31, t32], argTypes := #[82, 3] }
      refine chainQ_do (d := (some 33)) (fun v u => ∃ y : Nat, v = .int .i64 (y : Int) ∧ y < n2) (fun v w1 w2 hw h => h) rfl rfl (fun m w' hm' hS' => ?_) ?_
      · simp only [lookP, allP, Act.put, List.getElem?_cons_zero, List.getElem?_cons_succ, List.setIfInBounds_toArray, List.set_cons_zero, List.set_cons_succ]
        intro K hK
        replace hm' : m < 9 := hm'
        go_simp
        go_at_call 72
        refine (spec_pick w0 g _ (n2 : Int) _ hS'.2.1 (hS'.1.belowOf (HW.out.belowOf HBB.out hge) hge) (by omega)).mono ?_
        rintro e u ⟨⟨y, rfl, y0, _, y2, _⟩, hc, hw⟩
        replace y2 := y2 (by omega)
        obtain ⟨j, rfl⟩ := Int.eq_ofNat_of_zero_le y0
        exact hK.out _ _ hw ⟨hS'.1.trans hw, hc.mono (by omega), ⟨within_at (hS'.1.trans hw) z_0_0 (.inr (by omega)), within_at (hS'.1.trans hw) z_0_1 (.inr (by omega)), within_at (hS'.1.trans hw) z_0_2 (.inr (by omega)), within_at (hS'.1.trans hw) z_1_0 (.inr (by omega)), within_at (hS'.1.trans hw) z_1_1 (.inr (by omega)), within_at (hS'.1.trans hw) z_1_2 (.inr (by omega)), within_at (hS'.1.trans hw) z_2_0 (.inr (by omega)), within_at (hS'.1.trans hw) z_2_1 (.inr (by omega)), within_at (hS'.1.trans hw) z_2_2 (.inr (by omega))⟩⟩ ⟨j, rfl, by omega⟩
      iterate 2 (refine' chainQ_read (DrawS.good _ _ _ _ _ _) _ rfl rfl (fun m w' hm' hS' => ?_) ?_; rotate_left; · (simp only [lookP, allP, Act.put, List.getElem?_cons_zero, List.getElem?_cons_succ, List.setIfInBounds_toArray, List.set_cons_zero, List.set_cons_succ]; (try dsimp only [DrawS] at hS'); go_simp; (try with_reducible rfl)))
      -- 7: call { callee := value (func 45), args := #[t34, t35], argTypes := #[82, 24] }
      refine chainQ_do (d := (some 36)) (fun v u => ∃ (xq7 : Int), v = (.int .i64 xq7) ∧ (-10 ≤ xq7 ∧ xq7 ≤ 2000000010)) (fun v w1 w2 hw h => h) rfl rfl (fun m w' hm' hS' => ?_) ?_
      · simp only [lookP, allP, Act.put, List.getElem?_cons_zero, List.getElem?_cons_succ, List.setIfInBounds_toArray, List.set_cons_zero, List.set_cons_succ]
        intro K hK
        replace hm' : m < 9 := hm'
        go_simp
        go_at_call 45
        refine (spec_anyExpo w0 g _ P Q G _ hS'.2.1 (hS'.1.belowOf (HW.out.belowOf HBB.out hge) hge) (by omega) HGR.out).mono ?_
        rintro e u ⟨⟨xq7, rfl, xq7l, xq7u⟩, hc, hw⟩
        exact hK.out _ _ hw ⟨hS'.1.trans hw, hc.mono (by omega), ⟨within_at (hS'.1.trans hw) z_0_0 (.inr (by omega)), within_at (hS'.1.trans hw) z_0_1 (.inr (by omega)), within_at (hS'.1.trans hw) z_0_2 (.inr (by omega)), within_at (hS'.1.trans hw) z_1_0 (.inr (by omega)), within_at (hS'.1.trans hw) z_1_1 (.inr (by omega)), within_at (hS'.1.trans hw) z_1_2 (.inr (by omega)), within_at (hS'.1.trans hw) z_2_0 (.inr (by omega)), within_at (hS'.1.trans hw) z_2_1 (.inr (by omega)), within_at (hS'.1.trans hw) z_2_2 (.inr (by omega))⟩⟩ ⟨xq7, rfl, ⟨xq7l, xq7u⟩⟩
      -- 8: indexAddr 42 t30 t33
      refine chainQ_have (DrawS.good _ _ _ _ _ _) (d := (some 37)) (fun v u => ∃ y : Nat, v = .pointer (some ⟨rb, y, none⟩) ∧ y < n2) (fun v w1 w2 hw h => h) rfl rfl (fun m w' hm' hS' => ?_) ?_
      · simp only [lookP, allP, Act.put, List.getElem?_cons_zero, List.getElem?_cons_succ, List.setIfInBounds_toArray, List.set_cons_zero, List.set_cons_succ]
        intro x4 hx4
        obtain ⟨y, rfl, yl⟩ := hx4
        have yz : (0 : Int) ≤ (y : Int) := by omega
        have yn : (y : Int) < (n2 : Int) := by omega
        refine ⟨.pointer (some ⟨rb, y, none⟩), ?_, y, rfl, yl⟩
        go_simp
      refine chainQ_nil (fun u1 hS' => ?_)
      simp only [allP, Act.put, List.setIfInBounds_toArray, List.set_cons_zero, List.set_cons_succ]
      intro x8 hx8
      intro x7 hx7
      intro x4 hx4
      replace hS' : DrawS w0 u3 g _ 5000 _ 9 u1 := hS'
      obtain ⟨hw, hc, hC⟩ := hS'
      obtain ⟨xq7, rfl, xq7l, xq7u⟩ := hx7
      have hsz1 := hw.size
      replace HZg := Lib.hid (HZg.out.kept hw (.inr (by omega)))
      replace HP := Lib.hid (HP.out.kept hw (.inr (by omega)))
      replace HX := Lib.hid (HX.out.kept hw (.inr (by omega)))
      replace HO0 := Lib.hid (HO0.out.within hw (by omega))
      replace HO1 := Lib.hid (HO1.out.within hw (by omega))
      replace HO2 := Lib.hid (HO2.out.within hw (by omega))
      replace HW := Lib.hid (HW.out.trans hw)
      replace HC := Lib.hid hc
      clear hc hw hC
      clear z_0_0 z_0_1 z_0_2 z_1_0 z_1_1 z_1_2 z_2_0 z_2_1 z_2_2
      obtain ⟨y, rfl, yl⟩ := hx8
      clear hx4
      obtain ⟨_, hh, _, _, hcx⟩ := HO2.out.own.at_ (by have := HE2.out; omega)
      obtain ⟨y1, y2⟩ := hcx y yl
      have HX1 : Hid (u1.cell? ⟨rb, y, none⟩ = some (.int .i64 (nth l2 y))) := by cases hh; exact y1
      have HX2 : Hid (u1.frozen? ⟨rb, y, none⟩ = false) := by cases hh; exact y2
      clear hcx hh y1 y2
      have y1 := HX1.out
      have y2 := HX2.out
      clear HX1 HX2
      have x0 := HX.out.cell (i := 0) rfl
      have x1 := HX.out.cell (i := 1) rfl
      have x2 := HX.out.cell (i := 2) rfl
      have fx := fun j => HX.out.frozen j
      have p0 := HP.out.cell (i := 0) rfl
      have p1 := HP.out.cell (i := 1) rfl
      have p2 := HP.out.cell (i := 2) rfl
      go_wp2_with fail
      refine NoPanic.normal ?_
      try (go_wp2_with fail)
      have NO2 := Lib.hid (HO2.out.stored HE2.out y (x := xq7) ⟨by omega, by omega⟩)
      have NO0 := Lib.hid (HO0.out.other (b := rb) (by omega) y (.int .i64 xq7))
      have NO1 := Lib.hid (HO1.out.other (b := rb) (by omega) y (.int .i64 xq7))
      have NX := Lib.hid (HX.out.other (b' := rb) (by omega) y (.int .i64 xq7))
      have NC := Lib.hid (HC.out.setNew (b := rb) (by omega) y (.int .i64 xq7))
      have NW := Lib.hid (HW.out.setNew (b := rb) (by omega) y (.int .i64 xq7))
      clear HX HC HW HO0 HO1 HO2 y1 y2 x0 x1 x2 fx p0 p1 p2
      have HX := NX
      have HC := NC
      have HW := NW
      have HO0 := NO0
      have HO1 := NO1
      have HO2 := NO2
      have HXF := Lib.hid (((HX.out.set 0 (.slice a0 n0 c0)).set 1 (.slice a1 n1 c1)).set 2 (.slice (some ⟨rb, 0, none⟩) n2 c2))
      have t_0 := HXF.out.cell (i := 0) rfl
      have t_1 := HXF.out.cell (i := 1) rfl
      have t_2 := HXF.out.cell (i := 2) rfl
      try (go_wp2_with fail)
      refine bodyPost_ret (v := .agg #[.slice a0 n0 c0, .slice a1 n1 c1, .slice (some ⟨rb, 0, none⟩) n2 c2]) (by simp [results, Try.results83, go_sem, t_0, t_1, t_2]) rfl ⟨⟨_, _, _, _, _, _, rfl, ⟨(((HO0.out.other (b := w.heap.size + 2) (.inl (by omega)) 0 (.slice a0 n0 c0)).other (b := w.heap.size + 2) (.inl (by omega)) 1 (.slice a1 n1 c1)).other (b := w.heap.size + 2) (.inl (by omega)) 2 (.slice (some ⟨rb, 0, none⟩) n2 c2)).own.mono (by omega), by have := HE0.out; omega⟩, ⟨(((HO1.out.other (b := w.heap.size + 2) (.inl (by omega)) 0 (.slice a0 n0 c0)).other (b := w.heap.size + 2) (.inl (by omega)) 1 (.slice a1 n1 c1)).other (b := w.heap.size + 2) (.inl (by omega)) 2 (.slice (some ⟨rb, 0, none⟩) n2 c2)).own.mono (by omega), by have := HE1.out; omega⟩, ⟨(((HO2.out.other (b := w.heap.size + 2) (.inl (by omega)) 0 (.slice a0 n0 c0)).other (b := w.heap.size + 2) (.inl (by omega)) 1 (.slice a1 n1 c1)).other (b := w.heap.size + 2) (.inl (by omega)) 2 (.slice (some ⟨rb, 0, none⟩) n2 c2)).own.mono (by omega), by rw [List.length_set]; have := HE2.out; omega⟩⟩, (((HC.out.setNew (b := w.heap.size + 2) (by omega) 0 (.slice a0 n0 c0)).setNew (b := w.heap.size + 2) (by omega) 1 (.slice a1 n1 c1)).setNew (b := w.heap.size + 2) (by omega) 2 (.slice (some ⟨rb, 0, none⟩) n2 c2)).mono (by omega), (((HW.out.setNew (b := w.heap.size + 2) (by omega) 0 (.slice a0 n0 c0)).setNew (b := w.heap.size + 2) (by omega) 1 (.slice a1 n1 c1)).setNew (b := w.heap.size + 2) (by omega) 2 (.slice (some ⟨rb, 0, none⟩) n2 c2))⟩
  · by_cases hz : n0 = 0
    · have HZ0 : Hid (n0 = 0) := hz
      have hzi : decide ((0 : Int) < (n0 : Int)) = false := decide_eq_false (by omega)
      have hzj : decide (0 < n0) = false := decide_eq_false (by omega)
      have hzk : ¬ 0 < n0 := by omega
      clear hz
      have x0 := HX.out.cell (i := 0) rfl
      have x1 := HX.out.cell (i := 1) rfl
      have x2 := HX.out.cell (i := 2) rfl
      have fx := fun j => HX.out.frozen j
      have p0 := HP.out.cell (i := 0) rfl
      have p1 := HP.out.cell (i := 1) rfl
      have p2 := HP.out.cell (i := 2) rfl
      go_wp2_with fail
      have HXF := Lib.hid (((HX.out.set 0 (.slice a0 n0 c0)).set 1 (.slice a1 n1 c1)).set 2 (.slice a2 n2 c2))
      have t_0 := HXF.out.cell (i := 0) rfl
      have t_1 := HXF.out.cell (i := 1) rfl
      have t_2 := HXF.out.cell (i := 2) rfl
      try (go_wp2_with fail)
      refine bodyPost_ret (v := .agg #[.slice a0 n0 c0, .slice a1 n1 c1, .slice a2 n2 c2]) (by simp [results, Try.results83, go_sem, t_0, t_1, t_2]) rfl ⟨⟨_, _, _, l0, l1, l2, rfl, ⟨(((HO0.out.other (b := w.heap.size + 2) (.inl (by omega)) 0 (.slice a0 n0 c0)).other (b := w.heap.size + 2) (.inl (by omega)) 1 (.slice a1 n1 c1)).other (b := w.heap.size + 2) (.inl (by omega)) 2 (.slice a2 n2 c2)).own.mono (by omega), by have := HE0.out; omega⟩, ⟨(((HO1.out.other (b := w.heap.size + 2) (.inl (by omega)) 0 (.slice a0 n0 c0)).other (b := w.heap.size + 2) (.inl (by omega)) 1 (.slice a1 n1 c1)).other (b := w.heap.size + 2) (.inl (by omega)) 2 (.slice a2 n2 c2)).own.mono (by omega), by have := HE1.out; omega⟩, ⟨(((HO2.out.other (b := w.heap.size + 2) (.inl (by omega)) 0 (.slice a0 n0 c0)).other (b := w.heap.size + 2) (.inl (by omega)) 1 (.slice a1 n1 c1)).other (b := w.heap.size + 2) (.inl (by omega)) 2 (.slice a2 n2 c2)).own.mono (by omega), by have := HE2.out; omega⟩⟩, (((HC.out.setNew (b := w.heap.size + 2) (by omega) 0 (.slice a0 n0 c0)).setNew (b := w.heap.size + 2) (by omega) 1 (.slice a1 n1 c1)).setNew (b := w.heap.size + 2) (by omega) 2 (.slice a2 n2 c2)).mono (by omega), (((HW.out.setNew (b := w.heap.size + 2) (by omega) 0 (.slice a0 n0 c0)).setNew (b := w.heap.size + 2) (by omega) 1 (.slice a1 n1 c1)).setNew (b := w.heap.size + 2) (by omega) 2 (.slice a2 n2 c2))⟩
    · have hnz : 0 < n0 := by omega
      have hzi : decide ((0 : Int) < (n0 : Int)) = true := decide_eq_true (by omega)
      obtain ⟨rb, rfl, hrb, _, _⟩ := HO0.out.own.at_ (by have := HE0.out; omega)
      have hrt : rb < t0.heap.size := HO0.out.lt rb rfl
      have q0 := HP.out.cell (i := 0) rfl
      go_wp2_with fail
      clear q0
      have z_0_0 := HZg.out.cell (i := 0) rfl
      have z_0_1 := HZg.out.cell (i := 1) rfl
      have z_0_2 := HZg.out.cell (i := 2) rfl
      have z_1_0 := HP.out.cell (i := 0) rfl
      have z_1_1 := HP.out.cell (i := 1) rfl
      have z_1_2 := HP.out.cell (i := 2) rfl
      have z_2_0 := HX.out.cell (i := 0) rfl
      have z_2_1 := HX.out.cell (i := 1) rfl
      have z_2_2 := HX.out.cell (i := 2) rfl
      try (go_wp2_with fail)
      refine wp_region_noPanic ?_
      refine wp_region_Q (Within g (g + 1)) (DrawS w0 u3 g _ 5000 (fun w' => w'.cell? ⟨w.heap.size, 0, none⟩ = some (.int .i64 P) ∧ w'.cell? ⟨w.heap.size, 1, none⟩ = some (.int .i64 Q) ∧ w'.cell? ⟨w.heap.size, 2, none⟩ = some (.int .i64 G) ∧ w'.cell? ⟨(w.heap.size + 1), 0, none⟩ = some (.slice (some ⟨rb, 0, none⟩) n0 c0) ∧ w'.cell? ⟨(w.heap.size + 1), 1, none⟩ = some (.slice a1 n1 c1) ∧ w'.cell? ⟨(w.heap.size + 1), 2, none⟩ = some (.slice a2 n2 c2) ∧ w'.cell? ⟨(w.heap.size + 2), 0, none⟩ = some (.slice none 0 0) ∧ w'.cell? ⟨(w.heap.size + 2), 1, none⟩ = some (.slice none 0 0) ∧ w'.cell? ⟨(w.heap.size + 2), 2, none⟩ = some (.slice none 0 0))) 12 [(0, []), (1, [0]), (2, []), (3, []), (4, [1, 0]), (5, []), (6, []), (7, [1, 0]), (8, [6, 3])] [9] (by kernel_rfl) (by kernel_rfl) (by kernel_rfl) rfl (fun _ _ _ _ h => h) (DrawS.good _ _ _ _ _ _) ⟨(Within.refl _ _ _).drew, by simpa using HC.out.keep (Below.refl _ _).drew, ⟨box_at z_0_0 (Below.refl _ _).drew, box_at z_0_1 (Below.refl _ _).drew, box_at z_0_2 (Below.refl _ _).drew, box_at z_1_0 (Below.refl _ _).drew, box_at z_1_1 (Below.refl _ _).drew, box_at z_1_2 (Below.refl _ _).drew, box_at z_2_0 (Below.refl _ _).drew, box_at z_2_1 (Below.refl _ _).drew, box_at z_2_2 (Below.refl _ _).drew⟩⟩ ?_
      simp only [pickP, pickN, List.getElem?_cons_zero, List.getElem?_cons_succ]
      iterate 4 (refine' chainQ_read (DrawS.good _ _ _ _ _ _) _ rfl rfl (fun m w' hm' hS' => ?_) ?_; rotate_left; · (simp only [lookP, allP, Act.put, List.getElem?_cons_zero, List.getElem?_cons_succ, List.setIfInBounds_toArray, List.set_cons_zero, List.set_cons_succ]; (try dsimp only [DrawS] at hS'); go_simp; (try with_reducible rfl)))
      -- 4: call { callee := value (func 72), args := #[t47, t48], argTypes := #[82, 3] }
      refine chainQ_do (d := (some 49)) (fun v u => ∃ y : Nat, v = .int .i64 (y : Int) ∧ y < n0) (fun v w1 w2 hw h => h) rfl rfl (fun m w' hm' hS' => ?_) ?_
      · simp only [lookP, allP, Act.put, List.getElem?_cons_zero, List.getElem?_cons_succ, List.setIfInBounds_toArray, List.set_cons_zero, List.set_cons_succ]
        intro K hK
        replace hm' : m < 9 := hm'
        go_simp
        go_at_call 72
        refine (spec_pick w0 g _ (n0 : Int) _ hS'.2.1 (hS'.1.belowOf (HW.out.belowOf HBB.out hge) hge) (by omega)).mono ?_
        rintro e u ⟨⟨y, rfl, y0, _, y2, _⟩, hc, hw⟩
        replace y2 := y2 (by omega)
        obtain ⟨j, rfl⟩ := Int.eq_ofNat_of_zero_le y0
        exact hK.out _ _ hw ⟨hS'.1.trans hw, hc.mono (by omega), ⟨within_at (hS'.1.trans hw) z_0_0 (.inr (by omega)), within_at (hS'.1.trans hw) z_0_1 (.inr (by omega)), within_at (hS'.1.trans hw) z_0_2 (.inr (by omega)), within_at (hS'.1.trans hw) z_1_0 (.inr (by omega)), within_at (hS'.1.trans hw) z_1_1 (.inr (by omega)), within_at (hS'.1.trans hw) z_1_2 (.inr (by omega)), within_at (hS'.1.trans hw) z_2_0 (.inr (by omega)), within_at (hS'.1.trans hw) z_2_1 (.inr (by omega)), within_at (hS'.1.trans hw) z_2_2 (.inr (by omega))⟩⟩ ⟨j, rfl, by omega⟩
      iterate 2 (refine' chainQ_read (DrawS.good _ _ _ _ _ _) _ rfl rfl (fun m w' hm' hS' => ?_) ?_; rotate_left; · (simp only [lookP, allP, Act.put, List.getElem?_cons_zero, List.getElem?_cons_succ, List.setIfInBounds_toArray, List.set_cons_zero, List.set_cons_succ]; (try dsimp only [DrawS] at hS'); go_simp; (try with_reducible rfl)))
      -- 7: call { callee := value (func 44), args := #[t50, t51], argTypes := #[82, 24] }
      refine chainQ_do (d := (some 52)) (fun v u => ∃ (xq7 : Int), v = (.int .i64 xq7) ∧ (-10 ≤ xq7 ∧ xq7 ≤ 2000000010)) (fun v w1 w2 hw h => h) rfl rfl (fun m w' hm' hS' => ?_) ?_
      · simp only [lookP, allP, Act.put, List.getElem?_cons_zero, List.getElem?_cons_succ, List.setIfInBounds_toArray, List.set_cons_zero, List.set_cons_succ]
        intro K hK
        replace hm' : m < 9 := hm'
        go_simp
        go_at_call 44
        refine (spec_anyElement w0 g _ P Q G _ hS'.2.1 (hS'.1.belowOf (HW.out.belowOf HBB.out hge) hge) (by omega) HGR.out).mono ?_
        rintro e u ⟨⟨xq7, rfl, xq7l, xq7u⟩, hc, hw⟩
        exact hK.out _ _ hw ⟨hS'.1.trans hw, hc.mono (by omega), ⟨within_at (hS'.1.trans hw) z_0_0 (.inr (by omega)), within_at (hS'.1.trans hw) z_0_1 (.inr (by omega)), within_at (hS'.1.trans hw) z_0_2 (.inr (by omega)), within_at (hS'.1.trans hw) z_1_0 (.inr (by omega)), within_at (hS'.1.trans hw) z_1_1 (.inr (by omega)), within_at (hS'.1.trans hw) z_1_2 (.inr (by omega)), within_at (hS'.1.trans hw) z_2_0 (.inr (by omega)), within_at (hS'.1.trans hw) z_2_1 (.inr (by omega)), within_at (hS'.1.trans hw) z_2_2 (.inr (by omega))⟩⟩ ⟨xq7, rfl, ⟨xq7l, xq7u⟩⟩
      -- 8: indexAddr 42 t46 t49
      refine chainQ_have (DrawS.good _ _ _ _ _ _) (d := (some 53)) (fun v u => ∃ y : Nat, v = .pointer (some ⟨rb, y, none⟩) ∧ y < n0) (fun v w1 w2 hw h => h) rfl rfl (fun m w' hm' hS' => ?_) ?_
      · simp only [lookP, allP, Act.put, List.getElem?_cons_zero, List.getElem?_cons_succ, List.setIfInBounds_toArray, List.set_cons_zero, List.set_cons_succ]
        intro x4 hx4
        obtain ⟨y, rfl, yl⟩ := hx4
        have yz : (0 : Int) ≤ (y : Int) := by omega
        have yn : (y : Int) < (n0 : Int) := by omega
        refine ⟨.pointer (some ⟨rb, y, none⟩), ?_, y, rfl, yl⟩
        go_simp
      refine chainQ_nil (fun u1 hS' => ?_)
      simp only [allP, Act.put, List.setIfInBounds_toArray, List.set_cons_zero, List.set_cons_succ]
      intro x8 hx8
      intro x7 hx7
      intro x4 hx4
      replace hS' : DrawS w0 u3 g _ 5000 _ 9 u1 := hS'
      obtain ⟨hw, hc, hC⟩ := hS'
      obtain ⟨xq7, rfl, xq7l, xq7u⟩ := hx7
      have hsz1 := hw.size
      replace HZg := Lib.hid (HZg.out.kept hw (.inr (by omega)))
      replace HP := Lib.hid (HP.out.kept hw (.inr (by omega)))
      replace HX := Lib.hid (HX.out.kept hw (.inr (by omega)))
      replace HO0 := Lib.hid (HO0.out.within hw (by omega))
      replace HO1 := Lib.hid (HO1.out.within hw (by omega))
      replace HO2 := Lib.hid (HO2.out.within hw (by omega))
      replace HW := Lib.hid (HW.out.trans hw)
      replace HC := Lib.hid hc
      clear hc hw hC
      clear z_0_0 z_0_1 z_0_2 z_1_0 z_1_1 z_1_2 z_2_0 z_2_1 z_2_2
      obtain ⟨y, rfl, yl⟩ := hx8
      clear hx4
      obtain ⟨_, hh, _, _, hcx⟩ := HO0.out.own.at_ (by have := HE0.out; omega)
      obtain ⟨y1, y2⟩ := hcx y yl
      have HX1 : Hid (u1.cell? ⟨rb, y, none⟩ = some (.int .i64 (nth l0 y))) := by cases hh; exact y1
      have HX2 : Hid (u1.frozen? ⟨rb, y, none⟩ = false) := by cases hh; exact y2
      clear hcx hh y1 y2
      have y1 := HX1.out
      have y2 := HX2.out
      clear HX1 HX2
      have x0 := HX.out.cell (i := 0) rfl
      have x1 := HX.out.cell (i := 1) rfl
      have x2 := HX.out.cell (i := 2) rfl
      have fx := fun j => HX.out.frozen j
      have p0 := HP.out.cell (i := 0) rfl
      have p1 := HP.out.cell (i := 1) rfl
      have p2 := HP.out.cell (i := 2) rfl
      go_wp2_with fail
      refine NoPanic.normal ?_
      try (go_wp2_with fail)
      have NO0 := Lib.hid (HO0.out.stored HE0.out y (x := xq7) ⟨by omega, by omega⟩)
      have NO1 := Lib.hid (HO1.out.other (b := rb) (by omega) y (.int .i64 xq7))
      have NO2 := Lib.hid (HO2.out.other (b := rb) (by omega) y (.int .i64 xq7))
      have NX := Lib.hid (HX.out.other (b' := rb) (by omega) y (.int .i64 xq7))
      have NC := Lib.hid (HC.out.setNew (b := rb) (by omega) y (.int .i64 xq7))
      have NW := Lib.hid (HW.out.setNew (b := rb) (by omega) y (.int .i64 xq7))
      clear HX HC HW HO0 HO1 HO2 y1 y2 x0 x1 x2 fx p0 p1 p2
      have HX := NX
      have HC := NC
      have HW := NW
      have HO0 := NO0
      have HO1 := NO1
      have HO2 := NO2
      have HXF := Lib.hid (((HX.out.set 0 (.slice (some ⟨rb, 0, none⟩) n0 c0)).set 1 (.slice a1 n1 c1)).set 2 (.slice a2 n2 c2))
      have t_0 := HXF.out.cell (i := 0) rfl
      have t_1 := HXF.out.cell (i := 1) rfl
      have t_2 := HXF.out.cell (i := 2) rfl
      try (go_wp2_with fail)
      refine bodyPost_ret (v := .agg #[.slice (some ⟨rb, 0, none⟩) n0 c0, .slice a1 n1 c1, .slice a2 n2 c2]) (by simp [results, Try.results83, go_sem, t_0, t_1, t_2]) rfl ⟨⟨_, _, _, _, _, _, rfl, ⟨(((HO0.out.other (b := w.heap.size + 2) (.inl (by omega)) 0 (.slice (some ⟨rb, 0, none⟩) n0 c0)).other (b := w.heap.size + 2) (.inl (by omega)) 1 (.slice a1 n1 c1)).other (b := w.heap.size + 2) (.inl (by omega)) 2 (.slice a2 n2 c2)).own.mono (by omega), by rw [List.length_set]; have := HE0.out; omega⟩, ⟨(((HO1.out.other (b := w.heap.size + 2) (.inl (by omega)) 0 (.slice (some ⟨rb, 0, none⟩) n0 c0)).other (b := w.heap.size + 2) (.inl (by omega)) 1 (.slice a1 n1 c1)).other (b := w.heap.size + 2) (.inl (by omega)) 2 (.slice a2 n2 c2)).own.mono (by omega), by have := HE1.out; omega⟩, ⟨(((HO2.out.other (b := w.heap.size + 2) (.inl (by omega)) 0 (.slice (some ⟨rb, 0, none⟩) n0 c0)).other (b := w.heap.size + 2) (.inl (by omega)) 1 (.slice a1 n1 c1)).other (b := w.heap.size + 2) (.inl (by omega)) 2 (.slice a2 n2 c2)).own.mono (by omega), by have := HE2.out; omega⟩⟩, (((HC.out.setNew (b := w.heap.size + 2) (by omega) 0 (.slice (some ⟨rb, 0, none⟩) n0 c0)).setNew (b := w.heap.size + 2) (by omega) 1 (.slice a1 n1 c1)).setNew (b := w.heap.size + 2) (by omega) 2 (.slice a2 n2 c2)).mono (by omega), (((HW.out.setNew (b := w.heap.size + 2) (by omega) 0 (.slice (some ⟨rb, 0, none⟩) n0 c0)).setNew (b := w.heap.size + 2) (by omega) 1 (.slice a1 n1 c1)).setNew (b := w.heap.size + 2) (by omega) 2 (.slice a2 n2 c2))⟩
  · by_cases hz : n1 = 0
    · have HZ0 : Hid (n1 = 0) := hz
      have hzi : decide ((0 : Int) < (n1 : Int)) = false := decide_eq_false (by omega)
      have hzj : decide (0 < n1) = false := decide_eq_false (by omega)
      have hzk : ¬ 0 < n1 := by omega
      clear hz
      have x0 := HX.out.cell (i := 0) rfl
      have x1 := HX.out.cell (i := 1) rfl
      have x2 := HX.out.cell (i := 2) rfl
      have fx := fun j => HX.out.frozen j
      have p0 := HP.out.cell (i := 0) rfl
      have p1 := HP.out.cell (i := 1) rfl
      have p2 := HP.out.cell (i := 2) rfl
      go_wp2_with fail
      have HXF := Lib.hid (((HX.out.set 0 (.slice a0 n0 c0)).set 1 (.slice a1 n1 c1)).set 2 (.slice a2 n2 c2))
      have t_0 := HXF.out.cell (i := 0) rfl
      have t_1 := HXF.out.cell (i := 1) rfl
      have t_2 := HXF.out.cell (i := 2) rfl
      try (go_wp2_with fail)
      refine bodyPost_ret (v := .agg #[.slice a0 n0 c0, .slice a1 n1 c1, .slice a2 n2 c2]) (by simp [results, Try.results83, go_sem, t_0, t_1, t_2]) rfl ⟨⟨_, _, _, l0, l1, l2, rfl, ⟨(((HO0.out.other (b := w.heap.size + 2) (.inl (by omega)) 0 (.slice a0 n0 c0)).other (b := w.heap.size + 2) (.inl (by omega)) 1 (.slice a1 n1 c1)).other (b := w.heap.size + 2) (.inl (by omega)) 2 (.slice a2 n2 c2)).own.mono (by omega), by have := HE0.out; omega⟩, ⟨(((HO1.out.other (b := w.heap.size + 2) (.inl (by omega)) 0 (.slice a0 n0 c0)).other (b := w.heap.size + 2) (.inl (by omega)) 1 (.slice a1 n1 c1)).other (b := w.heap.size + 2) (.inl (by omega)) 2 (.slice a2 n2 c2)).own.mono (by omega), by have := HE1.out; omega⟩, ⟨(((HO2.out.other (b := w.heap.size + 2) (.inl (by omega)) 0 (.slice a0 n0 c0)).other (b := w.heap.size + 2) (.inl (by omega)) 1 (.slice a1 n1 c1)).other (b := w.heap.size + 2) (.inl (by omega)) 2 (.slice a2 n2 c2)).own.mono (by omega), by have := HE2.out; omega⟩⟩, (((HC.out.setNew (b := w.heap.size + 2) (by omega) 0 (.slice a0 n0 c0)).setNew (b := w.heap.size + 2) (by omega) 1 (.slice a1 n1 c1)).setNew (b := w.heap.size + 2) (by omega) 2 (.slice a2 n2 c2)).mono (by omega), (((HW.out.setNew (b := w.heap.size + 2) (by omega) 0 (.slice a0 n0 c0)).setNew (b := w.heap.size + 2) (by omega) 1 (.slice a1 n1 c1)).setNew (b := w.heap.size + 2) (by omega) 2 (.slice a2 n2 c2))⟩
    · have hnz : 0 < n1 := by omega
      have hzi : decide ((0 : Int) < (n1 : Int)) = true := decide_eq_true (by omega)
      obtain ⟨rb, rfl, hrb, _, _⟩ := HO1.out.own.at_ (by have := HE1.out; omega)
      have hrt : rb < t1.heap.size := HO1.out.lt rb rfl
      have q0 := HP.out.cell (i := 1) rfl
      go_wp2_with fail
      clear q0
      have z_0_0 := HZg.out.cell (i := 0) rfl
      have z_0_1 := HZg.out.cell (i := 1) rfl
      have z_0_2 := HZg.out.cell (i := 2) rfl
      have z_1_0 := HP.out.cell (i := 0) rfl
      have z_1_1 := HP.out.cell (i := 1) rfl
      have z_1_2 := HP.out.cell (i := 2) rfl
      have z_2_0 := HX.out.cell (i := 0) rfl
      have z_2_1 := HX.out.cell (i := 1) rfl
      have z_2_2 := HX.out.cell (i := 2) rfl
      try (go_wp2_with fail)
      refine wp_region_noPanic ?_
      refine wp_region_Q (Within g (g + 1)) (DrawS w0 u3 g _ 5000 (fun w' => w'.cell? ⟨w.heap.size, 0, none⟩ = some (.int .i64 P) ∧ w'.cell? ⟨w.heap.size, 1, none⟩ = some (.int .i64 Q) ∧ w'.cell? ⟨w.heap.size, 2, none⟩ = some (.int .i64 G) ∧ w'.cell? ⟨(w.heap.size + 1), 0, none⟩ = some (.slice a0 n0 c0) ∧ w'.cell? ⟨(w.heap.size + 1), 1, none⟩ = some (.slice (some ⟨rb, 0, none⟩) n1 c1) ∧ w'.cell? ⟨(w.heap.size + 1), 2, none⟩ = some (.slice a2 n2 c2) ∧ w'.cell? ⟨(w.heap.size + 2), 0, none⟩ = some (.slice none 0 0) ∧ w'.cell? ⟨(w.heap.size + 2), 1, none⟩ = some (.slice none 0 0) ∧ w'.cell? ⟨(w.heap.size + 2), 2, none⟩ = some (.slice none 0 0))) 12 [(0, []), (1, [0]), (2, []), (3, []), (4, [1, 0]), (5, []), (6, []), (7, [1, 0]), (8, [6, 3])] [9] (by kernel_rfl) (by kernel_rfl) (by kernel_rfl) rfl (fun _ _ _ _ h => h) (DrawS.good _ _ _ _ _ _) ⟨(Within.refl _ _ _).drew, by simpa using HC.out.keep (Below.refl _ _).drew, ⟨box_at z_0_0 (Below.refl _ _).drew, box_at z_0_1 (Below.refl _ _).drew, box_at z_0_2 (Below.refl _ _).drew, box_at z_1_0 (Below.refl _ _).drew, box_at z_1_1 (Below.refl _ _).drew, box_at z_1_2 (Below.refl _ _).drew, box_at z_2_0 (Below.refl _ _).drew, box_at z_2_1 (Below.refl _ _).drew, box_at z_2_2 (Below.refl _ _).drew⟩⟩ ?_
      simp only [pickP, pickN, List.getElem?_cons_zero, List.getElem?_cons_succ]
      iterate 4 (refine' chainQ_read (DrawS.good _ _ _ _ _ _) _ rfl rfl (fun m w' hm' hS' => ?_) ?_; rotate_left; · (simp only [lookP, allP, Act.put, List.getElem?_cons_zero, List.getElem?_cons_succ, List.setIfInBounds_toArray, List.set_cons_zero, List.set_cons_succ]; (try dsimp only [DrawS] at hS'); go_simp; (try with_reducible rfl)))
      -- 4: call { callee := value (func 72), args := #[t63, t64], argTypes := #[82, 3] }
      refine chainQ_do (d := (some 65)) (fun v u => ∃ y : Nat, v = .int .i64 (y : Int) ∧ y < n1) (fun v w1 w2 hw h => h) rfl rfl (fun m w' hm' hS' => ?_) ?_
      · simp only [lookP, allP, Act.put, List.getElem?_cons_zero, List.getElem?_cons_succ, List.setIfInBounds_toArray, List.set_cons_zero, List.set_cons_succ]
        intro K hK
        replace hm' : m < 9 := hm'
        go_simp
        go_at_call 72
        refine (spec_pick w0 g _ (n1 : Int) _ hS'.2.1 (hS'.1.belowOf (HW.out.belowOf HBB.out hge) hge) (by omega)).mono ?_
        rintro e u ⟨⟨y, rfl, y0, _, y2, _⟩, hc, hw⟩
        replace y2 := y2 (by omega)
        obtain ⟨j, rfl⟩ := Int.eq_ofNat_of_zero_le y0
        exact hK.out _ _ hw ⟨hS'.1.trans hw, hc.mono (by omega), ⟨within_at (hS'.1.trans hw) z_0_0 (.inr (by omega)), within_at (hS'.1.trans hw) z_0_1 (.inr (by omega)), within_at (hS'.1.trans hw) z_0_2 (.inr (by omega)), within_at (hS'.1.trans hw) z_1_0 (.inr (by omega)), within_at (hS'.1.trans hw) z_1_1 (.inr (by omega)), within_at (hS'.1.trans hw) z_1_2 (.inr (by omega)), within_at (hS'.1.trans hw) z_2_0 (.inr (by omega)), within_at (hS'.1.trans hw) z_2_1 (.inr (by omega)), within_at (hS'.1.trans hw) z_2_2 (.inr (by omega))⟩⟩ ⟨j, rfl, by omega⟩
      iterate 2 (refine' chainQ_read (DrawS.good _ _ _ _ _ _) _ rfl rfl (fun m w' hm' hS' => ?_) ?_; rotate_left; · (simp only [lookP, allP, Act.put, List.getElem?_cons_zero, List.getElem?_cons_succ, List.setIfInBounds_toArray, List.set_cons_zero, List.set_cons_succ]; (try dsimp only [DrawS] at hS'); go_simp; (try with_reducible rfl)))
      -- 7: call { callee := value (func 45), args := #[t66, t67], argTypes := #[82, 24] }
      refine chainQ_do (d := (some 68)) (fun v u => ∃ (xq7 : Int), v = (.int .i64 xq7) ∧ (-10 ≤ xq7 ∧ xq7 ≤ 2000000010)) (fun v w1 w2 hw h => h) rfl rfl (fun m w' hm' hS' => ?_) ?_
      · simp only [lookP, allP, Act.put, List.getElem?_cons_zero, List.getElem?_cons_succ, List.setIfInBounds_toArray, List.set_cons_zero, List.set_cons_succ]
        intro K hK
        replace hm' : m < 9 := hm'
        go_simp
        go_at_call 45
        refine (spec_anyExpo w0 g _ P Q G _ hS'.2.1 (hS'.1.belowOf (HW.out.belowOf HBB.out hge) hge) (by omega) HGR.out).mono ?_
        rintro e u ⟨⟨xq7, rfl, xq7l, xq7u⟩, hc, hw⟩
        exact hK.out _ _ hw ⟨hS'.1.trans hw, hc.mono (by omega), ⟨within_at (hS'.1.trans hw) z_0_0 (.inr (by omega)), within_at (hS'.1.trans hw) z_0_1 (.inr (by omega)), within_at (hS'.1.trans hw) z_0_2 (.inr (by omega)), within_at (hS'.1.trans hw) z_1_0 (.inr (by omega)), within_at (hS'.1.trans hw) z_1_1 (.inr (by omega)), within_at (hS'.1.trans hw) z_1_2 (.inr (by omega)), within_at (hS'.1.trans hw) z_2_0 (.inr (by omega)), within_at (hS'.1.trans hw) z_2_1 (.inr (by omega)), within_at (hS'.1.trans hw) z_2_2 (.inr (by omega))⟩⟩ ⟨xq7, rfl, ⟨xq7l, xq7u⟩⟩
      -- 8: indexAddr 42 t62 t65
      refine chainQ_have (DrawS.good _ _ _ _ _ _) (d := (some 69)) (fun v u => ∃ y : Nat, v = .pointer (some ⟨rb, y, none⟩) ∧ y < n1) (fun v w1 w2 hw h => h) rfl rfl (fun m w' hm' hS' => ?_) ?_
      · simp only [lookP, allP, Act.put, List.getElem?_cons_zero, List.getElem?_cons_succ, List.setIfInBounds_toArray, List.set_cons_zero, List.set_cons_succ]
        intro x4 hx4
        obtain ⟨y, rfl, yl⟩ := hx4
        have yz : (0 : Int) ≤ (y : Int) := by omega
        have yn : (y : Int) < (n1 : Int) := by omega
        refine ⟨.pointer (some ⟨rb, y, none⟩), ?_, y, rfl, yl⟩
        go_simp
      refine chainQ_nil (fun u1 hS' => ?_)
      simp only [allP, Act.put, List.setIfInBounds_toArray, List.set_cons_zero, List.set_cons_succ]
      intro x8 hx8
      intro x7 hx7
      intro x4 hx4
      replace hS' : DrawS w0 u3 g _ 5000 _ 9 u1 := hS'
      obtain ⟨hw, hc, hC⟩ := hS'
      obtain ⟨xq7, rfl, xq7l, xq7u⟩ := hx7
      have hsz1 := hw.size
      replace HZg := Lib.hid (HZg.out.kept hw (.inr (by omega)))
      replace HP := Lib.hid (HP.out.kept hw (.inr (by omega)))
      replace HX := Lib.hid (HX.out.kept hw (.inr (by omega)))
      replace HO0 := Lib.hid (HO0.out.within hw (by omega))
      replace HO1 := Lib.hid (HO1.out.within hw (by omega))
      replace HO2 := Lib.hid (HO2.out.within hw (by omega))
      replace HW := Lib.hid (HW.out.trans hw)
      replace HC := Lib.hid hc
      clear hc hw hC
      clear z_0_0 z_0_1 z_0_2 z_1_0 z_1_1 z_1_2 z_2_0 z_2_1 z_2_2
      obtain ⟨y, rfl, yl⟩ := hx8
      clear hx4
      obtain ⟨_, hh, _, _, hcx⟩ := HO1.out.own.at_ (by have := HE1.out; omega)
      obtain ⟨y1, y2⟩ := hcx y yl
      have HX1 : Hid (u1.cell? ⟨rb, y, none⟩ = some (.int .i64 (nth l1 y))) := by cases hh; exact y1
      have HX2 : Hid (u1.frozen? ⟨rb, y, none⟩ = false) := by cases hh; exact y2
      clear hcx hh y1 y2
      have y1 := HX1.out
      have y2 := HX2.out
      clear HX1 HX2
      have x0 := HX.out.cell (i := 0) rfl
      have x1 := HX.out.cell (i := 1) rfl
      have x2 := HX.out.cell (i := 2) rfl
      have fx := fun j => HX.out.frozen j
      have p0 := HP.out.cell (i := 0) rfl
      have p1 := HP.out.cell (i := 1) rfl
      have p2 := HP.out.cell (i := 2) rfl
      go_wp2_with fail
      refine NoPanic.normal ?_
      try (go_wp2_with fail)
      have NO1 := Lib.hid (HO1.out.stored HE1.out y (x := xq7) ⟨by omega, by omega⟩)
      have NO0 := Lib.hid (HO0.out.other (b := rb) (by omega) y (.int .i64 xq7))
      have NO2 := Lib.hid (HO2.out.other (b := rb) (by omega) y (.int .i64 xq7))
      have NX := Lib.hid (HX.out.other (b' := rb) (by omega) y (.int .i64 xq7))
      have NC := Lib.hid (HC.out.setNew (b := rb) (by omega) y (.int .i64 xq7))
      have NW := Lib.hid (HW.out.setNew (b := rb) (by omega) y (.int .i64 xq7))
      clear HX HC HW HO0 HO1 HO2 y1 y2 x0 x1 x2 fx p0 p1 p2
      have HX := NX
      have HC := NC
      have HW := NW
      have HO0 := NO0
      have HO1 := NO1
      have HO2 := NO2
      have HXF := Lib.hid (((HX.out.set 0 (.slice a0 n0 c0)).set 1 (.slice (some ⟨rb, 0, none⟩) n1 c1)).set 2 (.slice a2 n2 c2))
      have t_0 := HXF.out.cell (i := 0) rfl
      have t_1 := HXF.out.cell (i := 1) rfl
      have t_2 := HXF.out.cell (i := 2) rfl
      try (go_wp2_with fail)
      refine bodyPost_ret (v := .agg #[.slice a0 n0 c0, .slice (some ⟨rb, 0, none⟩) n1 c1, .slice a2 n2 c2]) (by simp [results, Try.results83, go_sem, t_0, t_1, t_2]) rfl ⟨⟨_, _, _, _, _, _, rfl, ⟨(((HO0.out.other (b := w.heap.size + 2) (.inl (by omega)) 0 (.slice a0 n0 c0)).other (b := w.heap.size + 2) (.inl (by omega)) 1 (.slice (some ⟨rb, 0, none⟩) n1 c1)).other (b := w.heap.size + 2) (.inl (by omega)) 2 (.slice a2 n2 c2)).own.mono (by omega), by have := HE0.out; omega⟩, ⟨(((HO1.out.other (b := w.heap.size + 2) (.inl (by omega)) 0 (.slice a0 n0 c0)).other (b := w.heap.size + 2) (.inl (by omega)) 1 (.slice (some ⟨rb, 0, none⟩) n1 c1)).other (b := w.heap.size + 2) (.inl (by omega)) 2 (.slice a2 n2 c2)).own.mono (by omega), by rw [List.length_set]; have := HE1.out; omega⟩, ⟨(((HO2.out.other (b := w.heap.size + 2) (.inl (by omega)) 0 (.slice a0 n0 c0)).other (b := w.heap.size + 2) (.inl (by omega)) 1 (.slice (some ⟨rb, 0, none⟩) n1 c1)).other (b := w.heap.size + 2) (.inl (by omega)) 2 (.slice a2 n2 c2)).own.mono (by omega), by have := HE2.out; omega⟩⟩, (((HC.out.setNew (b := w.heap.size + 2) (by omega) 0 (.slice a0 n0 c0)).setNew (b := w.heap.size + 2) (by omega) 1 (.slice (some ⟨rb, 0, none⟩) n1 c1)).setNew (b := w.heap.size + 2) (by omega) 2 (.slice a2 n2 c2)).mono (by omega), (((HW.out.setNew (b := w.heap.size + 2) (by omega) 0 (.slice a0 n0 c0)).setNew (b := w.heap.size + 2) (by omega) 1 (.slice (some ⟨rb, 0, none⟩) n1 c1)).setNew (b := w.heap.size + 2) (by omega) 2 (.slice a2 n2 c2))⟩
  · have q2 := HP.out.cell (i := 2) rfl
    have HRB : Hid (u3.grownBy (u3.alloc (.cells #[.int .i64 0] 3)) (Value.ownBlock (.slice a2 n2 c2))) := grownBy_of_below ((Below.refl _ _).alloc (Nat.le_refl _) _)
    have HA2 := Lib.hid (HO2.out.own.apart HP.out (by decide))
    have x0 := HX.out.cell (i := 0) rfl
    have x1 := HX.out.cell (i := 1) rfl
    have x2 := HX.out.cell (i := 2) rfl
    have fx := fun j => HX.out.frozen j
    have p0 := HP.out.cell (i := 0) rfl
    have p1 := HP.out.cell (i := 1) rfl
    have p2 := HP.out.cell (i := 2) rfl
    go_wp2_with (at_builtin; refine wpList_append_intsN rfl _ _ rfl t1.heap.size _ _ l2 [0] rfl (HO2.out.own.alloc _) rfl (Ints.lit1 _ ⟨by decide, by decide⟩) (by rw [HE2.out]; simp; omega) (by simp; omega) (n2 + 1) (by rw [HE2.out]; rfl) ?_; intro a5 c5 w5 hown5 hgr5; have hga := grownBy_trans HRB.out hgr5; have NP := Lib.hid (HP.out.grownR hga HA2.out); have hb5 : Below t1.heap.size u3 w5 := HO2.out.own.grown hga (by omega); have NX := Lib.hid (HX.out.belowB hb5 (by omega)); have N0 := Lib.hid (HO0.out.grown HO2.out hga (.inl (by omega))); have N1 := Lib.hid (HO1.out.grown HO2.out hga (.inl (by omega))); have hs5 := hb5.size; have NO5 := Lib.hid hown5; have NC := Lib.hid (HC.out.belowB hb5 (by omega)); have NW := Lib.hid (HW.out.belowStep (hb5.mono (by omega))); have NA := Lib.hid (NO5.out.apart NP.out (by decide)); clear hb5 hown5 hgr5 hga x0 x1 x2 fx p0 p1 p2 q2; have f5 := fun j => NP.out.frozen j; have y1 := NP.out.cell (i := 2) rfl; have p0 := NP.out.cell (i := 0) rfl; have p1 := NP.out.cell (i := 1) rfl; have x0 := NX.out.cell (i := 0) rfl; have x1 := NX.out.cell (i := 1) rfl; have x2 := NX.out.cell (i := 2) rfl; have fx := fun j => NX.out.frozen j)
    clear HX HC HW HO0 HO1 HP x0 x1 x2 fx p0 p1 y1 f5
    have HX := Lib.hid (NX.out.other (b' := w.heap.size + 1) (by omega) 2 (.slice a5 (n2 + 1) c5))
    have HC := Lib.hid (NC.out.setNew (b := w.heap.size + 1) (by omega) 2 (.slice a5 (n2 + 1) c5))
    have HW := Lib.hid (NW.out.setNew (b := w.heap.size + 1) (by omega) 2 (.slice a5 (n2 + 1) c5))
    have HO0' := Lib.hid (N0.out.other (b := w.heap.size + 1) (.inl (by omega)) 2 (.slice a5 (n2 + 1) c5))
    have HO1' := Lib.hid (N1.out.other (b := w.heap.size + 1) (.inl (by omega)) 2 (.slice a5 (n2 + 1) c5))
    have HO2' : Hid (OwnI (w5.setCell ⟨w.heap.size + 1, 2, none⟩ (.slice a5 (n2 + 1) c5)) t1.heap.size (.slice a5 (n2 + 1) c5) (l2 ++ [0])) := NO5.out.other (by omega) _ _
    clear HO2
    have HO0 := HO0'
    have HO1 := HO1'
    have HO2 : Hid (LowI (w5.setCell ⟨w.heap.size + 1, 2, none⟩ (.slice a5 (n2 + 1) c5)) t1.heap.size w5.heap.size (.slice a5 (n2 + 1) c5) (l2 ++ [0])) := LowI.of HO2'.out (by simp)
    have HXF := Lib.hid (((HX.out.set 0 (.slice a0 n0 c0)).set 1 (.slice a1 n1 c1)).set 2 (.slice a5 (n2 + 1) c5))
    have t_0 := HXF.out.cell (i := 0) rfl
    have t_1 := HXF.out.cell (i := 1) rfl
    have t_2 := HXF.out.cell (i := 2) rfl
    try (go_wp2_with fail)
    refine bodyPost_ret (v := .agg #[.slice a0 n0 c0, .slice a1 n1 c1, .slice a5 (n2 + 1) c5]) (by simp [results, Try.results83, go_sem, t_0, t_1, t_2]) rfl ⟨⟨_, _, _, _, _, _, rfl, ⟨(((HO0.out.other (b := w.heap.size + 2) (.inl (by omega)) 0 (.slice a0 n0 c0)).other (b := w.heap.size + 2) (.inl (by omega)) 1 (.slice a1 n1 c1)).other (b := w.heap.size + 2) (.inl (by omega)) 2 (.slice a5 (n2 + 1) c5)).own.mono (by omega), by have := HE0.out; omega⟩, ⟨(((HO1.out.other (b := w.heap.size + 2) (.inl (by omega)) 0 (.slice a0 n0 c0)).other (b := w.heap.size + 2) (.inl (by omega)) 1 (.slice a1 n1 c1)).other (b := w.heap.size + 2) (.inl (by omega)) 2 (.slice a5 (n2 + 1) c5)).own.mono (by omega), by have := HE1.out; omega⟩, ⟨(((HO2.out.other (b := w.heap.size + 2) (.inl (by omega)) 0 (.slice a0 n0 c0)).other (b := w.heap.size + 2) (.inl (by omega)) 1 (.slice a1 n1 c1)).other (b := w.heap.size + 2) (.inl (by omega)) 2 (.slice a5 (n2 + 1) c5)).own.mono (by omega), by rw [List.length_append, HE2.out]; simp; omega⟩⟩, (((HC.out.setNew (b := w.heap.size + 2) (by omega) 0 (.slice a0 n0 c0)).setNew (b := w.heap.size + 2) (by omega) 1 (.slice a1 n1 c1)).setNew (b := w.heap.size + 2) (by omega) 2 (.slice a5 (n2 + 1) c5)).mono (by omega), (((HW.out.setNew (b := w.heap.size + 2) (by omega) 0 (.slice a0 n0 c0)).setNew (b := w.heap.size + 2) (by omega) 1 (.slice a1 n1 c1)).setNew (b := w.heap.size + 2) (by omega) 2 (.slice a5 (n2 + 1) c5))⟩
  · have x0 := HX.out.cell (i := 0) rfl
    have x1 := HX.out.cell (i := 1) rfl
    have x2 := HX.out.cell (i := 2) rfl
    have fx := fun j => HX.out.frozen j
    have p0 := HP.out.cell (i := 0) rfl
    have p1 := HP.out.cell (i := 1) rfl
    have p2 := HP.out.cell (i := 2) rfl
    go_wp2_with fail
    have HXF := Lib.hid (((HX.out.set 0 (.slice none 0 0)).set 1 (.slice none 0 0)).set 2 (.slice none 0 0))
    have t_0 := HXF.out.cell (i := 0) rfl
    have t_1 := HXF.out.cell (i := 1) rfl
    have t_2 := HXF.out.cell (i := 2) rfl
    try (go_wp2_with fail)
    refine bodyPost_ret (v := .agg #[.slice none 0 0, .slice none 0 0, .slice none 0 0]) (by simp [results, Try.results83, go_sem, t_0, t_1, t_2]) rfl ⟨⟨_, _, _, [], [], [], rfl, ⟨OwnI.nil _ _, by simp⟩, ⟨OwnI.nil _ _, by simp⟩, ⟨OwnI.nil _ _, by simp⟩⟩, (((HC.out.setNew (b := w.heap.size + 2) (by omega) 0 (.slice none 0 0)).setNew (b := w.heap.size + 2) (by omega) 1 (.slice none 0 0)).setNew (b := w.heap.size + 2) (by omega) 2 (.slice none 0 0)).mono (by omega), (((HW.out.setNew (b := w.heap.size + 2) (by omega) 0 (.slice none 0 0)).setNew (b := w.heap.size + 2) (by omega) 1 (.slice none 0 0)).setNew (b := w.heap.size + 2) (by omega) 2 (.slice none 0 0))⟩
  · have j0 : (x3 == 0) = false := by rw [beq_eq_false_iff_ne]; exact i0
    have j1 : (x3 == 1) = false := by rw [beq_eq_false_iff_ne]; exact i1
    have j2 : (x3 == 2) = false := by rw [beq_eq_false_iff_ne]; exact i2
    have j3 : (x3 == 3) = false := by rw [beq_eq_false_iff_ne]; exact i3
    have j4 : (x3 == 4) = false := by rw [beq_eq_false_iff_ne]; exact i4
    clear i0 i1 i2 i3 i4
    have x0 := HX.out.cell (i := 0) rfl
    have x1 := HX.out.cell (i := 1) rfl
    have x2 := HX.out.cell (i := 2) rfl
    have fx := fun j => HX.out.frozen j
    have p0 := HP.out.cell (i := 0) rfl
    have p1 := HP.out.cell (i := 1) rfl
    have p2 := HP.out.cell (i := 2) rfl
    go_wp2_with fail
    have HXF := Lib.hid (((HX.out.set 0 (.slice a0 n0 c0)).set 1 (.slice a1 n1 c1)).set 2 (.slice a2 n2 c2))
    have t_0 := HXF.out.cell (i := 0) rfl
    have t_1 := HXF.out.cell (i := 1) rfl
    have t_2 := HXF.out.cell (i := 2) rfl
    try (go_wp2_with fail)
    refine bodyPost_ret (v := .agg #[.slice a0 n0 c0, .slice a1 n1 c1, .slice a2 n2 c2]) (by simp [results, Try.results83, go_sem, t_0, t_1, t_2]) rfl ⟨⟨_, _, _, l0, l1, l2, rfl, ⟨(((HO0.out.other (b := w.heap.size + 2) (.inl (by omega)) 0 (.slice a0 n0 c0)).other (b := w.heap.size + 2) (.inl (by omega)) 1 (.slice a1 n1 c1)).other (b := w.heap.size + 2) (.inl (by omega)) 2 (.slice a2 n2 c2)).own.mono (by omega), by have := HE0.out; omega⟩, ⟨(((HO1.out.other (b := w.heap.size + 2) (.inl (by omega)) 0 (.slice a0 n0 c0)).other (b := w.heap.size + 2) (.inl (by omega)) 1 (.slice a1 n1 c1)).other (b := w.heap.size + 2) (.inl (by omega)) 2 (.slice a2 n2 c2)).own.mono (by omega), by have := HE1.out; omega⟩, ⟨(((HO2.out.other (b := w.heap.size + 2) (.inl (by omega)) 0 (.slice a0 n0 c0)).other (b := w.heap.size + 2) (.inl (by omega)) 1 (.slice a1 n1 c1)).other (b := w.heap.size + 2) (.inl (by omega)) 2 (.slice a2 n2 c2)).own.mono (by omega), by have := HE2.out; omega⟩⟩, (((HC.out.setNew (b := w.heap.size + 2) (by omega) 0 (.slice a0 n0 c0)).setNew (b := w.heap.size + 2) (by omega) 1 (.slice a1 n1 c1)).setNew (b := w.heap.size + 2) (by omega) 2 (.slice a2 n2 c2)).mono (by omega), (((HW.out.setNew (b := w.heap.size + 2) (by omega) 0 (.slice a0 n0 c0)).setNew (b := w.heap.size + 2) (by omega) 1 (.slice a1 n1 c1)).setNew (b := w.heap.size + 2) (by omega) 2 (.slice a2 n2 c2))⟩
end Go.Proofs.Ytacpnphfopmofaa
namespace Go.Proofs.Ytacpnphfopmofaa
open Go.RowKit
set_option linter.unusedSimpArgs false
set_option linter.unusedVariables false

structure RangeD where
  b : List Int
  p : List ProofD
theorem nth_range {f : Nat → Int} {n k : Nat} (h : k < n) : nth ((List.range n).map f) k = f k := by
  simp [nth, List.getD, h]
end Go.Proofs.Ytacpnphfopmofaa
namespace Go.Proofs.Ytacpnphfopmofaa
open Go.RowKit
set_option linter.unusedSimpArgs false
set_option linter.unusedVariables false

def c2 (gr : GroupD) (a b : CipherD) : CipherD := ⟨mulL gr [a.a, b.a], mulL gr [a.b, b.b]⟩
def SmallC (c : CipherD) : Prop := Small c.a ∧ Small c.b
end Go.Proofs.Ytacpnphfopmofaa
namespace Go.Proofs.Ytacpnphfopmofaa
open Go.RowKit
set_option linter.unusedSimpArgs false
set_option linter.unusedVariables false

def AllSmallC (l : List CipherD) : Prop := ∀ c ∈ l, SmallC c
end Go.Proofs.Ytacpnphfopmofaa
