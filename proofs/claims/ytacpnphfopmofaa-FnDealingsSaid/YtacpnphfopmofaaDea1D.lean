/- Dealings: walks of the program (printed by gen_dea1.py). -/
import Derived.Test.YtacpnphfopmofaaDeaLD
namespace Go.Proofs.Ytacpnphfopmofaa
open Go.RowKit
set_option linter.unusedSimpArgs false
set_option linter.unusedVariables false
set_option maxRecDepth 100000 in
set_option maxHeartbeats 8000000 in
theorem impl_deal (gr : GroupD) (cv : Value) (cs : List Int) (n : Nat) (w : World) (hg : OkG gr) (hcs : Ints w cv cs) (hel : ∀ y ∈ cs, 0 ≤ y ∧ y < gr.q) (hn : n ≤ 1000) (hl : cs.length ≤ 1000) :
    Calls Try.prog 104 #[.agg #[.int .i64 gr.p, .int .i64 gr.q, .int .i64 gr.g], cv, .int .i64 (n : Int)] w fun e w' => (∃ x y, e = .returned (.agg #[x, y]) ∧ OwnI w' w.heap.size x (dcL gr cs cs.length) ∧ OwnI w' w.heap.size y (dsL gr cs n) ∧ ∀ k, x.ownBlock = some k → y.ownBlock ≠ some k) ∧ Below w.heap.size w w' := by
  have HG := Lib.hid hg
  have HEL := Lib.hid hel
  have HGS : Hid (Small gr.g) := by have h1 := hg.g1; have h2 := hg.g2; have h3 := hg.p2; exact ⟨by omega, by omega⟩
  have HQ : Hid (2 ≤ gr.q ∧ gr.q ≤ 2000000000) := ⟨hg.q1, by have := hg.q2; have := hg.p2; omega⟩
  clear hg hel
  obtain ⟨cva, cvn, cvc, rfl⟩ := hcs.shape
  have Ecv := Lib.hid hcs.len
  obtain ⟨k1', k2'⟩ := hcs.capMax
  unfold maxLen at k2'
  have Hcv := Lib.hid hcs
  have hcn : cvn ≤ 1000 := by have := Ecv.out; omega
  clear hcs hl
  obtain ⟨W, hW⟩ : ∃ W, W = (w.alloc (.cells #[.int .i64 gr.p, .int .i64 gr.q, .int .i64 gr.g] 24)).alloc (.cells #[.slice none 0 0, .slice none 0 0] 57) := ⟨_, rfl⟩
  have HB : Hid (Below w.heap.size w W) := by unfold Hid; rw [hW]; (repeat (first | exact Below.refl _ _ | assumption | refine Below.drew ?_ | refine Below.alloc ?_ (by first | (simp; done) | (simp; omega)) _ | refine Below.setCell ?_ (by first | (simp; done) | (simp; omega)) _))
  have HGX : Hid (BoxN W w.heap.size 24 [.int .i64 gr.p, .int .i64 gr.q, .int .i64 gr.g]) := by unfold Hid; rw [hW]; have h := (BoxN.new w [.int .i64 gr.p, .int .i64 gr.q, .int .i64 gr.g] 24).alloc (.cells #[.slice none 0 0, .slice none 0 0] 57); simpa using h
  have HRX : Hid (BoxN W (w.heap.size + 1) 57 [.slice none 0 0, .slice none 0 0]) := by unfold Hid; rw [hW]; have h := BoxN.new (w.alloc (.cells #[.int .i64 gr.p, .int .i64 gr.q, .int .i64 gr.g] 24)) [.slice none 0 0, .slice none 0 0] 57; simpa using h
  have hwW : w.heap.size + 1 < W.heap.size := HRX.out.lt
  obtain ⟨V, hV⟩ : ∃ V, V = W.alloc (.cells #[.slice none 0 0, .slice none 0 0] 57) := ⟨_, rfl⟩
  have hbV : Below W.heap.size W V := by rw [hV]; exact (Below.refl _ _).alloc (Nat.le_refl _) _
  have HZ : Hid (BoxN V W.heap.size 57 [.slice none 0 0, .slice none 0 0]) := by unfold Hid; rw [hV]; exact BoxN.new W _ _
  obtain ⟨bz, hbz⟩ : ∃ z, z = W.heap.size := ⟨_, rfl⟩
  have HBZ := Lib.hid hbz
  have hbz1 : W.heap.size ≤ bz := by omega
  have hbz2 : w.heap.size + 1 < bz := by omega
  rw [← hbz] at HZ
  have hVs : bz < V.heap.size := HZ.out.lt
  have HSW : Hid (w.heap.size + 1 + 1 = bz) := by unfold Hid; rw [hbz, hW]; simp
  go_enter Try.func104, Try.ntmps104
  go_wp2_with fail
  rw [← hW, ← hV]
  (try rw [HSW.out])
  (try rw [← hbz])
  clear hW hV hbz
  (try (go_wp2_with fail))
  go_loopg [14] cvn (fun gk iv wr => ∃ (v : Value) (k : Nat), k + gk = cvn ∧ iv = .int .i64 (k : Int) ∧ Hid (BoxN wr bz 57 [v, .slice none 0 0]) ∧ Hid (OwnI wr (bz + 1) v (dcL gr cs k)) ∧ Hid (Below W.heap.size W wr))
  case atStart => exact ⟨_, 0, by omega, rfl, HZ, OwnI.nil _ _, hbV⟩
  case round =>
    clear HZ hVs
    obtain ⟨v, k, hkg, rfl, HZ, HO, HWr⟩ := hrel
    have HKG := Lib.hid hkg
    have hgl : k < cvn → cvn - (k + 1) < gk := by omega
    have hbr : bz < wr.heap.size := HZ.out.lt
    have HBs : Hid (bz + 1 ≤ wr.heap.size) := by unfold Hid; omega
    obtain ⟨ao, co, rfl⟩ := HO.out.shape
    have HLB : Hid ((dcL gr cs k).length = k) := dcL_len ..
    rw [HLB.out] at HO HZ
    obtain ⟨LB, hLB⟩ : ∃ l, dcL gr cs k = l := ⟨_, rfl⟩
    rw [hLB] at HO HLB
    have HLe := Lib.hid hLB
    clear hkg hLB
    by_cases hlt : k < cvn
    · have hwk : IntKind.i64.wrap ((k : Int) + 1) = (k : Int) + 1 := IntWalk.i64_in _ (by omega)
      obtain ⟨b, o, e, hcx⟩ := Hcv.out.at_ (by have := Ecv.out; omega)
      cases e
      have yk := box_at (box_at (hcx k hlt) HB.out) HWr.out
      have HXI : Hid (I64 (nth cs k)) := nth_64 Hcv.out k
      clear hcx
      obtain ⟨x, hx⟩ : ∃ z, nth cs k = z := ⟨_, rfl⟩
      rw [hx] at yk HXI
      obtain ⟨Y, hY⟩ : ∃ z, powE gr gr.g x = z := ⟨_, rfl⟩
      have HY := Lib.hid hY
      have HYI : Hid (I64 Y) := by unfold Hid; rw [← hY]; exact small_64 (powE_small HG.out _ _)
      have HN1 : Hid (dcL gr cs (k + 1) = LB ++ [Y]) := by unfold Hid dcL; rw [HLe.out, hx, hY]
      clear hx hY
      have kk0 : (0 : Int) ≤ (k : Int) := by omega
      have kk1 : (k : Int) < (cvn : Int) := by omega
      have c0_0 := (HGX.out.below HWr.out).cell (i := 0) rfl
      have c0_1 := (HGX.out.below HWr.out).cell (i := 1) rfl
      have c0_2 := (HGX.out.below HWr.out).cell (i := 2) rfl
      have z0 := HZ.out.cell (i := 0) rfl
      have z1 := HZ.out.cell (i := 1) rfl
      have hc : Below wr.heap.size wr wr := Below.refl _ _
      go_wp2_with fail
      clear yk
      try (go_wp2_with fail)
      refine wp_region_noPanic ?_
      refine wp_region_P (fun w' => w'.cell? ⟨w.heap.size, 0, none⟩ = some (.int .i64 gr.p) ∧ w'.cell? ⟨w.heap.size, 1, none⟩ = some (.int .i64 gr.q) ∧ w'.cell? ⟨w.heap.size, 2, none⟩ = some (.int .i64 gr.g) ∧ w'.cell? ⟨bz, 0, none⟩ = some (.slice ao k co) ∧ w'.cell? ⟨bz, 1, none⟩ = some (.slice none 0 0)) 13 [(0, []), (1, [0]), (2, []), (3, []), (4, [0]), (5, []), (6, [3, 1, 0]), (7, [0])] [8, 9, 10] (by kernel_rfl) (by kernel_rfl) (by kernel_rfl) rfl (fun _ _ _ _ h => h) (fun w' h => ⟨box_at c0_0 h, box_at c0_1 h, box_at c0_2 h, box_at z0 h, box_at z1 h⟩) ?_
      simp only [pickP, pickN, List.getElem?_cons_zero, List.getElem?_cons_succ]
      iterate 6 (refine' chainP_read _ rfl rfl (fun w' hS' => ?_) ?_; rotate_left; · (simp only [lookP, allP, Act.put, List.getElem?_cons_zero, List.getElem?_cons_succ, List.setIfInBounds_toArray, List.set_cons_zero, List.set_cons_succ]; (try dsimp only at hS'); go_simp; (try with_reducible rfl)))
      -- 6: call { callee := value (func 80), args := #[t19, t21, t22], argTypes := #[24, 3, 3] }
      refine chainP_call (d := (some 24)) (.int .i64 Y) rfl rfl (fun w' hS' => ?_) ?_
      · simp only [lookP, allP, Act.put, List.getElem?_cons_zero, List.getElem?_cons_succ, List.setIfInBounds_toArray, List.set_cons_zero, List.set_cons_succ]
        intro K hK
        go_simp
        go_at_call 51
        refine (impl_pow gr gr.g x _ HG.out HGS.out HXI.out).mono ?_
        rintro e u ⟨rfl, hq⟩
        rw [HY.out]
        exact hK.out _ hq
      -- 7: buildSlice 43 1 #[(0, t23)]
      refine chainP_do (d := (some 25)) (fun v w => Ints w v [Y]) (fun v w w' hb h => Ints.below h hb) rfl rfl (fun w' hS' => ?_) ?_
      · simp only [lookP, allP, Act.put, List.getElem?_cons_zero, List.getElem?_cons_succ, List.setIfInBounds_toArray, List.set_cons_zero, List.set_cons_succ]
        intro K hK
        go_simp
        refine hK.out _ _ ((Below.refl _ _).alloc (Nat.le_refl _) _) ?_
        exact (OwnI.lit (B := w'.heap.size) w' (Nat.le_refl _) (l := [Y]) (AllI64.cons HYI.out AllI64.nil) rfl (by simp [maxLen]) 1 rfl).ints
      refine chainP_nil (fun ua hS' => ?_)
      simp only [allP, Act.put, List.setIfInBounds_toArray, List.set_cons_zero, List.set_cons_succ]
      intro x7 hx7
      have hq1 := hS'.1
      clear hS'
      replace hc := Below.next hc hq1
      replace c0_0 := box_at c0_0 hq1
      replace c0_1 := box_at c0_1 hq1
      replace c0_2 := box_at c0_2 hq1
      replace z0 := box_at z0 hq1
      replace z1 := box_at z1 hq1
      clear hq1
      have hx7 := hx7
      have HO1 := Lib.hid (HO.out.below hc)
      have HZ1 := Lib.hid (HZ.out.below hc)
      have HW1 := Lib.hid (Below.next HWr.out hc)
      have hsu : bz < ua.heap.size := HZ1.out.lt
      have hsu2 : (bz + 1) ≤ ua.heap.size := by have := HBs.out; have := hc.size; omega
      have HL7 := Lib.hid hx7
      clear hc c0_0 c0_1 c0_2 z0 z1 HO HZ HWr hx7
      have y0 := HZ1.out.cell (i := 0) rfl
      go_wp2_with (at_builtin; refine wpList_append_intsN rfl _ _ rfl (bz + 1) _ _ LB [Y] rfl HO1.out rfl HL7.out (by rw [HLB.out]; simp; omega) (by omega) (k + 1) (by rw [HLB.out]; rfl) ?_; intro a5 c5 w5 hown5 hgr5; have hb5 : Below (bz + 1) ua w5 := HO1.out.grown hgr5 (by omega); have HZ5 := Lib.hid (HZ1.out.belowB hb5 (by omega)); have hs5 := hb5.size; have HO5 := Lib.hid hown5; have HW5 := Lib.hid (HW1.out.trans (hb5.mono (by omega))); clear hown5 hgr5 y0; have f5 := HZ5.out.frozen 0; have y1 := HZ5.out.cell (i := 0) rfl)
      refine NoPanic.normal ?_
      clear y1 f5
      go_wp2_with fail
      go_roundg (cvn - (k + 1))
      case measure => exact hgl hlt
      case rel => exact ⟨_, k + 1, by have := HKG.out; omega, by go_num, HZ5.out.set 0 _, by unfold Hid; rw [HN1.out]; exact HO5.out.other (by omega) _ _, HW5.out.setCell (p := ⟨bz, 0, none⟩) (by show W.heap.size ≤ bz; omega) _⟩
    · obtain rfl : cvn = k := by have := HKG.out; omega
      clear HLB
      obtain ⟨LC, rfl⟩ : ∃ l, l = LB := ⟨_, rfl⟩
      obtain ⟨V1, hV1⟩ : ∃ z, z = Value.slice ao cvn co := ⟨_, rfl⟩
      rw [← hV1] at HO HZ
      have HV1e := Lib.hid hV1
      clear hV1 hgl hlt
      obtain ⟨wT, rfl⟩ : ∃ u, u = wr := ⟨_, rfl⟩
      obtain ⟨T, hT⟩ : ∃ z, z = wT.heap.size := ⟨_, rfl⟩
      have HVT : Hid (∀ j, V1.ownBlock = some j → j < T) := fun j hj => by rw [hT]; exact (HO.out.lt j hj).2
      have hTT : bz < T := by omega
      have HTs : Hid (T ≤ wT.heap.size) := by unfold Hid; omega
      clear hT
      have HLc : Hid (dcL gr cs cs.length = LC) := by unfold Hid; rw [Ecv.out]; exact HLe.out
      have HV := HO
      have hb1 : Below W.heap.size W wT := HWr.out
      have HZT := HZ
      clear HO HZ HWr HBs HLe HKG
      go_wp2_with fail
      go_loopg [10] n (fun gk iv wr => ∃ (v : Value) (k : Nat), k + gk = n ∧ iv = .int .i64 ((k : Int) + 1) ∧ Hid (BoxN wr bz 57 [V1, v]) ∧ Hid (OwnI wr T v (dsL gr cs k)) ∧ Hid (OwnI wr (bz + 1) V1 LC) ∧ Hid (Below W.heap.size W wr) ∧ T ≤ wr.heap.size)
      case atStart => exact ⟨_, 0, by omega, rfl, HZT, OwnI.nil _ _, HV, hb1, HTs.out⟩
      case round =>
        clear HZT HV hb1
        obtain ⟨v, k, hkg, rfl, HZ, HO, HV, HWr, hTr⟩ := hrel
        have HKG := Lib.hid hkg
        have hgl : k < n → n - (k + 1) < gk := by omega
        have hbr : bz < wr.heap.size := HZ.out.lt
        have HBs : Hid (T ≤ wr.heap.size) := hTr
        obtain ⟨ao, co, rfl⟩ := HO.out.shape
        have HLB2 : Hid ((dsL gr cs k).length = k) := dsL_len ..
        rw [HLB2.out] at HO HZ
        obtain ⟨LB, hLB⟩ : ∃ l, dsL gr cs k = l := ⟨_, rfl⟩
        rw [hLB] at HO HLB2
        have HLB := HLB2
        have HLe := Lib.hid hLB
        clear hkg hLB HLB2
        by_cases hlt : k < n
        · have hwk : IntKind.i64.wrap ((k : Int) + 1 + 1) = (k : Int) + 1 + 1 := IntWalk.i64_in _ (by omega)
          obtain ⟨k1, hk1⟩ : ∃ z : Nat, z = k + 1 := ⟨_, rfl⟩
          have ek1 : (k : Int) + 1 = (k1 : Int) := by omega
          have HK1 : Hid (0 ≤ (k1 : Int) ∧ (k1 : Int) ≤ 1000) := ⟨by omega, by omega⟩
          obtain ⟨Y, hY⟩ : ∃ z, hornE gr.q (k1 : Int) cs = z := ⟨_, rfl⟩
          have HY := Lib.hid hY
          have HYI : Hid (I64 Y) := by unfold Hid; rw [← hY]; obtain ⟨h1, h2⟩ := hornE_bd (q := gr.q) (by have := HQ.out.1; omega) (k1 : Int) cs; exact ⟨by have := HQ.out.2; omega, by have := HQ.out.2; omega⟩
          have HN1 : Hid (dsL gr cs (k + 1) = LB ++ [Y]) := by unfold Hid dsL; rw [HLe.out, ek1, hY]
          have HEk := Lib.hid ek1
          rw [ek1] at hwk ⊢
          have hkn : k1 ≤ n := by omega
          clear hY ek1 hk1
          have c0_0 := (HGX.out.below HWr.out).cell (i := 0) rfl
          have c0_1 := (HGX.out.below HWr.out).cell (i := 1) rfl
          have c0_2 := (HGX.out.below HWr.out).cell (i := 2) rfl
          have z0 := HZ.out.cell (i := 0) rfl
          have z1 := HZ.out.cell (i := 1) rfl
          have hc : Below wr.heap.size wr wr := Below.refl _ _
          go_wp2_with fail
          try (go_wp2_with fail)
          refine wp_region_noPanic ?_
          refine wp_region_P (fun w' => w'.cell? ⟨w.heap.size, 0, none⟩ = some (.int .i64 gr.p) ∧ w'.cell? ⟨w.heap.size, 1, none⟩ = some (.int .i64 gr.q) ∧ w'.cell? ⟨w.heap.size, 2, none⟩ = some (.int .i64 gr.g) ∧ w'.cell? ⟨bz, 0, none⟩ = some (V1) ∧ w'.cell? ⟨bz, 1, none⟩ = some (.slice ao k co)) 13 [(0, []), (1, [0]), (2, []), (3, [0]), (4, []), (5, []), (6, [2, 1, 0]), (7, [0])] [8, 9, 10] (by kernel_rfl) (by kernel_rfl) (by kernel_rfl) rfl (fun _ _ _ _ h => h) (fun w' h => ⟨box_at c0_0 h, box_at c0_1 h, box_at c0_2 h, box_at z0 h, box_at z1 h⟩) ?_
          simp only [pickP, pickN, List.getElem?_cons_zero, List.getElem?_cons_succ]
          iterate 6 (refine' chainP_read _ rfl rfl (fun w' hS' => ?_) ?_; rotate_left; · (simp only [lookP, allP, Act.put, List.getElem?_cons_zero, List.getElem?_cons_succ, List.setIfInBounds_toArray, List.set_cons_zero, List.set_cons_succ]; (try dsimp only at hS'); go_simp; (try with_reducible rfl)))
          -- 6: call { callee := value (func 205), args := #[t36, t37, t38], argTypes := #[3, 43, 3] }
          refine chainP_call (d := (some 40)) (.int .i64 Y) rfl rfl (fun w' hS' => ?_) ?_
          · simp only [lookP, allP, Act.put, List.getElem?_cons_zero, List.getElem?_cons_succ, List.setIfInBounds_toArray, List.set_cons_zero, List.set_cons_succ]
            intro K hK
            go_simp
            go_at_call 161
            refine (impl_evalPolyE gr.q _ cs (k1 : Int) _ HQ.out ((Hcv.out.below (HB.out.trans (HWr.out.mono HB.out.size))).below hS'.1) HEL.out HK1.out).mono ?_
            rintro e u ⟨rfl, hq⟩
            rw [HY.out]
            exact hK.out _ hq
          -- 7: buildSlice 43 1 #[(0, t39)]
          refine chainP_do (d := (some 41)) (fun v w => Ints w v [Y]) (fun v w w' hb h => Ints.below h hb) rfl rfl (fun w' hS' => ?_) ?_
          · simp only [lookP, allP, Act.put, List.getElem?_cons_zero, List.getElem?_cons_succ, List.setIfInBounds_toArray, List.set_cons_zero, List.set_cons_succ]
            intro K hK
            go_simp
            refine hK.out _ _ ((Below.refl _ _).alloc (Nat.le_refl _) _) ?_
            exact (OwnI.lit (B := w'.heap.size) w' (Nat.le_refl _) (l := [Y]) (AllI64.cons HYI.out AllI64.nil) rfl (by simp [maxLen]) 1 rfl).ints
          refine chainP_nil (fun ua hS' => ?_)
          simp only [allP, Act.put, List.setIfInBounds_toArray, List.set_cons_zero, List.set_cons_succ]
          intro x7 hx7
          have hq1 := hS'.1
          clear hS'
          replace hc := Below.next hc hq1
          replace c0_0 := box_at c0_0 hq1
          replace c0_1 := box_at c0_1 hq1
          replace c0_2 := box_at c0_2 hq1
          replace z0 := box_at z0 hq1
          replace z1 := box_at z1 hq1
          clear hq1
          have hx7 := hx7
          have HO1 := Lib.hid (HO.out.below hc)
          have HZ1 := Lib.hid (HZ.out.below hc)
          have HW1 := Lib.hid (Below.next HWr.out hc)
          have HV1 := Lib.hid (HV.out.below hc)
          have hsu : bz < ua.heap.size := HZ1.out.lt
          have hsu2 : T ≤ ua.heap.size := by have := HBs.out; have := hc.size; omega
          have HL7 := Lib.hid hx7
          clear hc c0_0 c0_1 c0_2 z0 z1 HO HZ HWr hx7
          have y0 := HZ1.out.cell (i := 1) rfl
          go_wp2_with (at_builtin; refine wpList_append_intsN rfl _ _ rfl T _ _ LB [Y] rfl HO1.out rfl HL7.out (by rw [HLB.out]; simp; omega) (by omega) (k + 1) (by rw [HLB.out]; rfl) ?_; intro a5 c5 w5 hown5 hgr5; have hb5 : Below T ua w5 := HO1.out.grown hgr5 (by omega); have HZ5 := Lib.hid (HZ1.out.belowB hb5 (by omega)); have hs5 := hb5.size; have HO5 := Lib.hid hown5; have HW5 := Lib.hid (HW1.out.trans (hb5.mono (by omega))); have HV5 := Lib.hid (HV1.out.belowT HVT.out hb5); clear hown5 hgr5 y0; have f5 := HZ5.out.frozen 1; have y1 := HZ5.out.cell (i := 1) rfl)
          refine NoPanic.normal ?_
          clear y1 f5
          go_wp2_with fail
          go_roundg (n - (k + 1))
          case measure => exact hgl hlt
          case rel => exact ⟨_, k + 1, by have := HKG.out; omega, by have := HEk.out; go_num, HZ5.out.set 1 _, by unfold Hid; rw [HN1.out]; exact HO5.out.other (by omega) _ _, HV5.out.other (by omega) _ _, HW5.out.setCell (p := ⟨bz, 1, none⟩) (by show W.heap.size ≤ bz; omega) _, by rw [size_setC]; omega⟩
        · obtain rfl : n = k := by have := HKG.out; omega
          have hd : decide ((n : Int) + 1 ≤ (n : Int)) = false := decide_eq_false (by omega)
          obtain ⟨va1, vc1, e1⟩ := HV.out.shape
          obtain ⟨ln1, hln1⟩ : ∃ z, LC.length = z := ⟨_, rfl⟩
          rw [hln1] at e1
          subst e1
          clear hln1 HV1e
          have z0 := HZ.out.cell (i := 0) rfl
          have z1 := HZ.out.cell (i := 1) rfl
          have HR := Lib.hid (HRX.out.below HWr.out)
          have r0 := HR.out.cell (i := 0) rfl
          have r1 := HR.out.cell (i := 1) rfl
          have fr := fun j => HR.out.frozen j
          go_wp2_with fail
          have HRF := Lib.hid ((HR.out.set 0 (.slice va1 ln1 vc1)).set 1 (.slice ao n co))
          have t0 := HRF.out.cell (i := 0) rfl
          have t1 := HRF.out.cell (i := 1) rfl
          (try (go_wp2_with fail))
          refine bodyPost_ret (v := .agg #[.slice va1 ln1 vc1, .slice ao n co]) (by simp [results, Try.results104, go_sem, t0, t1]) rfl ⟨⟨_, _, rfl, by rw [HLc.out]; exact ((HV.out.other (b := w.heap.size + 1) (by omega) 0 (.slice va1 ln1 vc1)).other (b := w.heap.size + 1) (by omega) 1 (.slice ao n co)).mono (by omega), by rw [HLe.out]; exact ((HO.out.other (b := w.heap.size + 1) (by omega) 0 (.slice va1 ln1 vc1)).other (b := w.heap.size + 1) (by omega) 1 (.slice ao n co)).mono (by omega), fun k h1 h2 => by have h3 := HVT.out k h1; have h4 := (HO.out.lt k h2).1; omega⟩, ((HB.out.trans (HWr.out.mono (by omega))).setCell (p := ⟨w.heap.size + 1, 0, none⟩) (by show w.heap.size ≤ w.heap.size + 1; omega) (.slice va1 ln1 vc1)).setCell (p := ⟨w.heap.size + 1, 1, none⟩) (by show w.heap.size ≤ w.heap.size + 1; omega) (.slice ao n co)⟩
theorem impl_dealZ (gr : GroupD) (cv : Value) (cs : List Int) (n : Nat) (z : Int) (w : World) (hz : z = (n : Int)) (hg : OkG gr) (hcs : Ints w cv cs) (hel : ∀ y ∈ cs, 0 ≤ y ∧ y < gr.q) (hn : n ≤ 1000) (hl : cs.length ≤ 1000) :
    Calls Try.prog 104 #[.agg #[.int .i64 gr.p, .int .i64 gr.q, .int .i64 gr.g], cv, .int .i64 z] w fun e w' => (∃ x y, e = .returned (.agg #[x, y]) ∧ OwnI w' w.heap.size x (dcL gr cs cs.length) ∧ OwnI w' w.heap.size y (dsL gr cs n) ∧ ∀ k, x.ownBlock = some k → y.ownBlock ≠ some k) ∧ Below w.heap.size w w' := by
  subst hz; exact impl_deal gr cv cs n w hg hcs hel hn hl
set_option maxRecDepth 100000 in
set_option maxHeartbeats 2000000 in
theorem impl_DealShares (gr : GroupD) (cv : Value) (cs : List Int) (n : Int) (w : World) (hcs : Ints w cv cs) (hn : I64 n) :
    Calls Try.prog 25 #[.agg #[.int .i64 gr.p, .int .i64 gr.q, .int .i64 gr.g], cv, .int .i64 n] w fun e w' => RetDB e w' w.heap.size (dlB gr cs n) (dlR gr cs n) ∧ Below w.heap.size w w' := by
  have HNI := Lib.hid hn
  clear hn
  obtain ⟨cva, cvn, cvc, rfl⟩ := hcs.shape
  have Ecv := Lib.hid hcs.len
  have Kcv := Lib.hid hcs.capMax
  have Hcv := Lib.hid hcs
  clear hcs
  obtain ⟨W, hW⟩ : ∃ W, W = (w.alloc (.cells #[.int .i64 gr.p, .int .i64 gr.q, .int .i64 gr.g] 24)).alloc (.cells #[(.slice none 0 0), (.slice none 0 0)] 57) := ⟨_, rfl⟩
  have HB : Hid (Below w.heap.size w W) := by unfold Hid; rw [hW]; (repeat (first | exact Below.refl _ _ | assumption | refine Below.drew ?_ | refine Below.alloc ?_ (by first | (simp; done) | (simp; omega)) _ | refine Below.setCell ?_ (by first | (simp; done) | (simp; omega)) _))
  have c0_0 : W.cell? ⟨w.heap.size, 0, none⟩ = some (.int .i64 gr.p) := by rw [hW]; simp [go_sem]
  have c0_1 : W.cell? ⟨w.heap.size, 1, none⟩ = some (.int .i64 gr.q) := by rw [hW]; simp [go_sem]
  have c0_2 : W.cell? ⟨w.heap.size, 2, none⟩ = some (.int .i64 gr.g) := by rw [hW]; simp [go_sem]
  have HR1 : Hid (BoxN W (w.heap.size + 1) 57 [(.slice none 0 0), (.slice none 0 0)]) := by unfold Hid; rw [hW]; have h := (BoxN.new (w.alloc (.cells #[.int .i64 gr.p, .int .i64 gr.q, .int .i64 gr.g] 24)) [(.slice none 0 0), (.slice none 0 0)] 57); simpa using h
  have HSW : Hid (W.heap.size = w.heap.size + 2) := by unfold Hid; rw [hW]; simp
  have lr1 : w.heap.size + 1 < W.heap.size := by have := HSW.out; omega
  go_enter Try.func25, Try.ntmps25
  go_wp2_with fail
  rw [← hW]
  have hse : w.heap.size + 1 + 1 = W.heap.size := by have := HSW.out; omega
  (try rw [hse])
  clear hse
  clear hW
  have hc : Below W.heap.size W W := Below.refl _ _
  have HCC : Hid (∀ u, Below W.heap.size W u → u.cell? ⟨w.heap.size, 0, none⟩ = some (.int .i64 gr.p) ∧ u.cell? ⟨w.heap.size, 1, none⟩ = some (.int .i64 gr.q) ∧ u.cell? ⟨w.heap.size, 2, none⟩ = some (.int .i64 gr.g)) := fun u h => ⟨box_at c0_0 h, box_at c0_1 h, box_at c0_2 h⟩
  go_wp2_with fail
  refine (impl_isSharing gr _).mono ?_
  rintro e u1 ⟨rfl, hq1⟩
  replace hc := Below.next hc hq1
  clear hq1 c0_0 c0_1 c0_2
  obtain ⟨c0_0, c0_1, c0_2⟩ := HCC.out _ hc
  cases hc1 : shG gr with
  | false =>
    have Hhc1 := Lib.hid hc1
    clear hc1
    have HRE1 := Lib.hid (HR1.out.below hc)
    clear HR1
    have HBE := Lib.hid (HB.out.trans (hc.mono HB.out.size))
    have r1_0 := HRE1.out.cell (i := 0) rfl
    have r1_1 := HRE1.out.cell (i := 1) rfl
    have fr1 := fun j => HRE1.out.frozen j
    go_wp2_with fail
    have HRF := Lib.hid ((HRE1.out.set 0 ((.slice none 0 0))).set 1 ((.slice none 0 0)))
    have HBF := Lib.hid ((HBE.out.setCell (p := ⟨w.heap.size + 1, 0, none⟩) (by show w.heap.size ≤ w.heap.size + 1; omega) ((.slice none 0 0))).setCell (p := ⟨w.heap.size + 1, 1, none⟩) (by show w.heap.size ≤ w.heap.size + 1; omega) ((.slice none 0 0)))
    clear r1_0 r1_1 fr1
    have r1_0 := HRF.out.cell (i := 0) rfl
    have r1_1 := HRF.out.cell (i := 1) rfl
    try (go_wp2_with fail)
    have HVB : Hid (dlB gr cs n = false) := by unfold Hid; simp [dlB, Hhc1.out]
    have HPR : Hid (dlR gr cs n = ⟨[], []⟩) := by unfold Hid dlR; rw [if_neg (by rw [HVB.out]; simp)]
    refine bodyPost_ret (v := .tuple #[.agg #[(.slice none 0 0), (.slice none 0 0)], .bool false]) (by simp [results, Try.results25, go_sem, r1_0, r1_1]) rfl ⟨(by rw [HVB.out, HPR.out]; exact RetDB.mk (OwnI.nil _ _) (OwnI.nil _ _)), HBF.out⟩
  | true =>
    have HG := Lib.hid (shG_ok hc1)
    have Hhc1 := Lib.hid hc1
    clear hc1
    go_wp2_with fail
    refine (impl_within n 1 7 _).mono ?_
    rintro e u2 ⟨rfl, rfl⟩
    cases hc2 : decide (1 ≤ n ∧ n ≤ 7) with
    | false =>
      have HRE1 := Lib.hid (HR1.out.below hc)
      clear HR1
      have HBE := Lib.hid (HB.out.trans (hc.mono HB.out.size))
      have r1_0 := HRE1.out.cell (i := 0) rfl
      have r1_1 := HRE1.out.cell (i := 1) rfl
      have fr1 := fun j => HRE1.out.frozen j
      go_wp2_with fail
      have HRF := Lib.hid ((HRE1.out.set 0 ((.slice none 0 0))).set 1 ((.slice none 0 0)))
      have HBF := Lib.hid ((HBE.out.setCell (p := ⟨w.heap.size + 1, 0, none⟩) (by show w.heap.size ≤ w.heap.size + 1; omega) ((.slice none 0 0))).setCell (p := ⟨w.heap.size + 1, 1, none⟩) (by show w.heap.size ≤ w.heap.size + 1; omega) ((.slice none 0 0)))
      clear r1_0 r1_1 fr1
      have r1_0 := HRF.out.cell (i := 0) rfl
      have r1_1 := HRF.out.cell (i := 1) rfl
      try (go_wp2_with fail)
      have HVB : Hid (dlB gr cs n = false) := by unfold Hid; simp [dlB, Hhc1.out, hc2]
      have HPR : Hid (dlR gr cs n = ⟨[], []⟩) := by unfold Hid dlR; rw [if_neg (by rw [HVB.out]; simp)]
      refine bodyPost_ret (v := .tuple #[.agg #[(.slice none 0 0), (.slice none 0 0)], .bool false]) (by simp [results, Try.results25, go_sem, r1_0, r1_1]) rfl ⟨(by rw [HVB.out, HPR.out]; exact RetDB.mk (OwnI.nil _ _) (OwnI.nil _ _)), HBF.out⟩
    | true =>
      have HN7p := Lib.hid (of_decide_eq_true hc2)
      have HNZ : Hid (n = (n.toNat : Int)) := by have := HN7p.out; unfold Hid; omega
      have HN7 : Hid (n.toNat ≤ 1000) := by have := HN7p.out; unfold Hid; omega
      go_wp2_with fail
      refine (impl_within (cvn : Int) 1 n _).mono ?_
      rintro e u3 ⟨rfl, rfl⟩
      cases hc3 : decide (1 ≤ (cvn : Int) ∧ (cvn : Int) ≤ n) with
      | false =>
        have HLN : Hid (decide (1 ≤ (cs.length : Int) ∧ (cs.length : Int) ≤ n) = false) := by have q := of_decide_eq_false hc3; have := Ecv.out; unfold Hid; exact decide_eq_false (by omega)
        have HRE1 := Lib.hid (HR1.out.below hc)
        clear HR1
        have HBE := Lib.hid (HB.out.trans (hc.mono HB.out.size))
        have r1_0 := HRE1.out.cell (i := 0) rfl
        have r1_1 := HRE1.out.cell (i := 1) rfl
        have fr1 := fun j => HRE1.out.frozen j
        go_wp2_with fail
        have HRF := Lib.hid ((HRE1.out.set 0 ((.slice none 0 0))).set 1 ((.slice none 0 0)))
        have HBF := Lib.hid ((HBE.out.setCell (p := ⟨w.heap.size + 1, 0, none⟩) (by show w.heap.size ≤ w.heap.size + 1; omega) ((.slice none 0 0))).setCell (p := ⟨w.heap.size + 1, 1, none⟩) (by show w.heap.size ≤ w.heap.size + 1; omega) ((.slice none 0 0)))
        clear r1_0 r1_1 fr1
        have r1_0 := HRF.out.cell (i := 0) rfl
        have r1_1 := HRF.out.cell (i := 1) rfl
        try (go_wp2_with fail)
        have HVB : Hid (dlB gr cs n = false) := by unfold Hid; simp [dlB, Hhc1.out, hc2, HLN.out]
        have HPR : Hid (dlR gr cs n = ⟨[], []⟩) := by unfold Hid dlR; rw [if_neg (by rw [HVB.out]; simp)]
        refine bodyPost_ret (v := .tuple #[.agg #[(.slice none 0 0), (.slice none 0 0)], .bool false]) (by simp [results, Try.results25, go_sem, r1_0, r1_1]) rfl ⟨(by rw [HVB.out, HPR.out]; exact RetDB.mk (OwnI.nil _ _) (OwnI.nil _ _)), HBF.out⟩
      | true =>
        have HLNp : 1 ≤ (cs.length : Int) ∧ (cs.length : Int) ≤ n := by have q := of_decide_eq_true hc3; have := Ecv.out; omega
        have HLN : Hid (decide (1 ≤ (cs.length : Int) ∧ (cs.length : Int) ≤ n) = true) := decide_eq_true HLNp
        have HLNL := Lib.hid HLNp
        clear HLNp
        go_wp2_with fail
        refine (impl_areExps gr _ cs _ HG.out (Hcv.out.below (HB.out.trans (hc.mono HB.out.size)))).mono ?_
        rintro e u4 ⟨rfl, hq4⟩
        replace hc := Below.next hc hq4
        clear hq4 c0_0 c0_1 c0_2
        obtain ⟨c0_0, c0_1, c0_2⟩ := HCC.out _ hc
        cases hc4 : cs.all (expB gr) with
        | false =>
          have Hhc4 := Lib.hid hc4
          clear hc4
          have HRE1 := Lib.hid (HR1.out.below hc)
          clear HR1
          have HBE := Lib.hid (HB.out.trans (hc.mono HB.out.size))
          have r1_0 := HRE1.out.cell (i := 0) rfl
          have r1_1 := HRE1.out.cell (i := 1) rfl
          have fr1 := fun j => HRE1.out.frozen j
          go_wp2_with fail
          have HRF := Lib.hid ((HRE1.out.set 0 ((.slice none 0 0))).set 1 ((.slice none 0 0)))
          have HBF := Lib.hid ((HBE.out.setCell (p := ⟨w.heap.size + 1, 0, none⟩) (by show w.heap.size ≤ w.heap.size + 1; omega) ((.slice none 0 0))).setCell (p := ⟨w.heap.size + 1, 1, none⟩) (by show w.heap.size ≤ w.heap.size + 1; omega) ((.slice none 0 0)))
          clear r1_0 r1_1 fr1
          have r1_0 := HRF.out.cell (i := 0) rfl
          have r1_1 := HRF.out.cell (i := 1) rfl
          try (go_wp2_with fail)
          have HVB : Hid (dlB gr cs n = false) := by unfold Hid; simp [dlB, Hhc1.out, hc2, Hhc4.out, HLN.out]
          have HPR : Hid (dlR gr cs n = ⟨[], []⟩) := by unfold Hid dlR; rw [if_neg (by rw [HVB.out]; simp)]
          refine bodyPost_ret (v := .tuple #[.agg #[(.slice none 0 0), (.slice none 0 0)], .bool false]) (by simp [results, Try.results25, go_sem, r1_0, r1_1]) rfl ⟨(by rw [HVB.out, HPR.out]; exact RetDB.mk (OwnI.nil _ _) (OwnI.nil _ _)), HBF.out⟩
        | true =>
          have HC7 : Hid (cs.length ≤ 1000) := by have := of_decide_eq_true HLN.out; have := HN7p.out; unfold Hid; omega
          have HCE : Hid (∀ y ∈ cs, 0 ≤ y ∧ y < gr.q) := fun y hy => by have q := expB_bd (List.all_eq_true.1 hc4 y hy); exact ⟨q.1, by omega⟩
          have Hhc4 := Lib.hid hc4
          clear hc4
          go_wp2_with fail
          refine (impl_dealZ gr _ cs n.toNat n _ HNZ.out HG.out (Hcv.out.below (HB.out.trans (hc.mono HB.out.size))) HCE.out HN7.out HC7.out).mono ?_
          rintro e u5 ⟨⟨x0, x1, rfl, ho0, ho1, _⟩, hq5⟩
          have hszv := hc.size
          obtain ⟨xa0, xc0, rfl⟩ := OwnI.shapeN (n := cs.length) ho0 (dcL_len ..)
          obtain ⟨xa1, xc1, rfl⟩ := OwnI.shapeN (n := n.toNat) ho1 (dsL_len ..)
          replace hc := Below.next hc hq5
          clear hq5 c0_0 c0_1 c0_2
          obtain ⟨c0_0, c0_1, c0_2⟩ := HCC.out _ hc
          have HRE1 := Lib.hid (HR1.out.below hc)
          clear HR1
          have HBE := Lib.hid (HB.out.trans (hc.mono HB.out.size))
          have r1_0 := HRE1.out.cell (i := 0) rfl
          have r1_1 := HRE1.out.cell (i := 1) rfl
          have fr1 := fun j => HRE1.out.frozen j
          go_wp2_with fail
          have HRF := Lib.hid ((HRE1.out.set 0 ((.slice xa0 cs.length xc0))).set 1 ((.slice xa1 n.toNat xc1)))
          have HBF := Lib.hid ((HBE.out.setCell (p := ⟨w.heap.size + 1, 0, none⟩) (by show w.heap.size ≤ w.heap.size + 1; omega) ((.slice xa0 cs.length xc0))).setCell (p := ⟨w.heap.size + 1, 1, none⟩) (by show w.heap.size ≤ w.heap.size + 1; omega) ((.slice xa1 n.toNat xc1)))
          clear r1_0 r1_1 fr1
          have r1_0 := HRF.out.cell (i := 0) rfl
          have r1_1 := HRF.out.cell (i := 1) rfl
          try (go_wp2_with fail)
          have HVB : Hid (dlB gr cs n = true) := by unfold Hid; simp [dlB, Hhc1.out, hc2, Hhc4.out, HLN.out]
          have HPR : Hid (dlR gr cs n = deD gr cs n) := by unfold Hid dlR; rw [if_pos (by rw [HVB.out])]
          refine bodyPost_ret (v := .tuple #[.agg #[(.slice xa0 cs.length xc0), (.slice xa1 n.toNat xc1)], .bool true]) (by simp [results, Try.results25, go_sem, r1_0, r1_1]) rfl ⟨(by rw [HVB.out, HPR.out]; exact RetDB.mk (((ho0.oth (b := w.heap.size + 1) (by omega) 0 ((.slice xa0 cs.length xc0))).oth (b := w.heap.size + 1) (by omega) 1 ((.slice xa1 n.toNat xc1))).mono (by omega)) (((ho1.oth (b := w.heap.size + 1) (by omega) 0 ((.slice xa0 cs.length xc0))).oth (b := w.heap.size + 1) (by omega) 1 ((.slice xa1 n.toNat xc1))).mono (by omega))), HBF.out⟩
set_option maxRecDepth 100000 in
set_option maxHeartbeats 2000000 in
theorem spec_DealShares (gr : GroupD) (cv : Value) (cs : List Int) (n : Int) (w : World) (hcs : Ints w cv cs) (hn : I64 n) :
    Calls Try.prog 26 #[.agg #[.int .i64 gr.p, .int .i64 gr.q, .int .i64 gr.g], cv, .int .i64 n] w fun e w' => RetDB e w' w.heap.size (dlB gr cs n) (dlR gr cs n) ∧ Below w.heap.size w w' := by
  have HNI := Lib.hid hn
  clear hn
  obtain ⟨cva, cvn, cvc, rfl⟩ := hcs.shape
  have Ecv := Lib.hid hcs.len
  have Kcv := Lib.hid hcs.capMax
  have Hcv := Lib.hid hcs
  clear hcs
  obtain ⟨W, hW⟩ : ∃ W, W = (w.alloc (.cells #[.int .i64 gr.p, .int .i64 gr.q, .int .i64 gr.g] 24)).alloc (.cells #[(.slice none 0 0), (.slice none 0 0)] 57) := ⟨_, rfl⟩
  have HB : Hid (Below w.heap.size w W) := by unfold Hid; rw [hW]; (repeat (first | exact Below.refl _ _ | assumption | refine Below.drew ?_ | refine Below.alloc ?_ (by first | (simp; done) | (simp; omega)) _ | refine Below.setCell ?_ (by first | (simp; done) | (simp; omega)) _))
  have c0_0 : W.cell? ⟨w.heap.size, 0, none⟩ = some (.int .i64 gr.p) := by rw [hW]; simp [go_sem]
  have c0_1 : W.cell? ⟨w.heap.size, 1, none⟩ = some (.int .i64 gr.q) := by rw [hW]; simp [go_sem]
  have c0_2 : W.cell? ⟨w.heap.size, 2, none⟩ = some (.int .i64 gr.g) := by rw [hW]; simp [go_sem]
  have HR1 : Hid (BoxN W (w.heap.size + 1) 57 [(.slice none 0 0), (.slice none 0 0)]) := by unfold Hid; rw [hW]; have h := (BoxN.new (w.alloc (.cells #[.int .i64 gr.p, .int .i64 gr.q, .int .i64 gr.g] 24)) [(.slice none 0 0), (.slice none 0 0)] 57); simpa using h
  have HSW : Hid (W.heap.size = w.heap.size + 2) := by unfold Hid; rw [hW]; simp
  have lr1 : w.heap.size + 1 < W.heap.size := by have := HSW.out; omega
  go_enter Try.func26, Try.ntmps26
  go_wp2_with fail
  rw [← hW]
  have hse : w.heap.size + 1 + 1 = W.heap.size := by have := HSW.out; omega
  (try rw [hse])
  clear hse
  clear hW
  have hc : Below W.heap.size W W := Below.refl _ _
  have HCC : Hid (∀ u, Below W.heap.size W u → u.cell? ⟨w.heap.size, 0, none⟩ = some (.int .i64 gr.p) ∧ u.cell? ⟨w.heap.size, 1, none⟩ = some (.int .i64 gr.q) ∧ u.cell? ⟨w.heap.size, 2, none⟩ = some (.int .i64 gr.g)) := fun u h => ⟨box_at c0_0 h, box_at c0_1 h, box_at c0_2 h⟩
  go_wp2_with fail
  refine (spec_sGroup gr _).mono ?_
  rintro e u1 ⟨rfl, hq1⟩
  replace hc := Below.next hc hq1
  clear hq1 c0_0 c0_1 c0_2
  obtain ⟨c0_0, c0_1, c0_2⟩ := HCC.out _ hc
  cases hc1 : shG gr with
  | false =>
    have Hhc1 := Lib.hid hc1
    clear hc1
    have HRE1 := Lib.hid (HR1.out.below hc)
    clear HR1
    have HBE := Lib.hid (HB.out.trans (hc.mono HB.out.size))
    have r1_0 := HRE1.out.cell (i := 0) rfl
    have r1_1 := HRE1.out.cell (i := 1) rfl
    have fr1 := fun j => HRE1.out.frozen j
    go_wp2_with fail
    have HRF := Lib.hid ((HRE1.out.set 0 ((.slice none 0 0))).set 1 ((.slice none 0 0)))
    have HBF := Lib.hid ((HBE.out.setCell (p := ⟨w.heap.size + 1, 0, none⟩) (by show w.heap.size ≤ w.heap.size + 1; omega) ((.slice none 0 0))).setCell (p := ⟨w.heap.size + 1, 1, none⟩) (by show w.heap.size ≤ w.heap.size + 1; omega) ((.slice none 0 0)))
    clear r1_0 r1_1 fr1
    have r1_0 := HRF.out.cell (i := 0) rfl
    have r1_1 := HRF.out.cell (i := 1) rfl
    try (go_wp2_with fail)
    have HVB : Hid (dlB gr cs n = false) := by unfold Hid; simp [dlB, Hhc1.out]
    have HPR : Hid (dlR gr cs n = ⟨[], []⟩) := by unfold Hid dlR; rw [if_neg (by rw [HVB.out]; simp)]
    refine bodyPost_ret (v := .tuple #[.agg #[(.slice none 0 0), (.slice none 0 0)], .bool false]) (by simp [results, Try.results26, go_sem, r1_0, r1_1]) rfl ⟨(by rw [HVB.out, HPR.out]; exact RetDB.mk (OwnI.nil _ _) (OwnI.nil _ _)), HBF.out⟩
  | true =>
    have HG := Lib.hid (shG_ok hc1)
    have Hhc1 := Lib.hid hc1
    clear hc1
    go_wp2_with fail
    refine (spec_l1In n 1 7 _).mono ?_
    rintro e u2 ⟨rfl, rfl⟩
    cases hc2 : decide (1 ≤ n ∧ n ≤ 7) with
    | false =>
      have HRE1 := Lib.hid (HR1.out.below hc)
      clear HR1
      have HBE := Lib.hid (HB.out.trans (hc.mono HB.out.size))
      have r1_0 := HRE1.out.cell (i := 0) rfl
      have r1_1 := HRE1.out.cell (i := 1) rfl
      have fr1 := fun j => HRE1.out.frozen j
      go_wp2_with fail
      have HRF := Lib.hid ((HRE1.out.set 0 ((.slice none 0 0))).set 1 ((.slice none 0 0)))
      have HBF := Lib.hid ((HBE.out.setCell (p := ⟨w.heap.size + 1, 0, none⟩) (by show w.heap.size ≤ w.heap.size + 1; omega) ((.slice none 0 0))).setCell (p := ⟨w.heap.size + 1, 1, none⟩) (by show w.heap.size ≤ w.heap.size + 1; omega) ((.slice none 0 0)))
      clear r1_0 r1_1 fr1
      have r1_0 := HRF.out.cell (i := 0) rfl
      have r1_1 := HRF.out.cell (i := 1) rfl
      try (go_wp2_with fail)
      have HVB : Hid (dlB gr cs n = false) := by unfold Hid; simp [dlB, Hhc1.out, hc2]
      have HPR : Hid (dlR gr cs n = ⟨[], []⟩) := by unfold Hid dlR; rw [if_neg (by rw [HVB.out]; simp)]
      refine bodyPost_ret (v := .tuple #[.agg #[(.slice none 0 0), (.slice none 0 0)], .bool false]) (by simp [results, Try.results26, go_sem, r1_0, r1_1]) rfl ⟨(by rw [HVB.out, HPR.out]; exact RetDB.mk (OwnI.nil _ _) (OwnI.nil _ _)), HBF.out⟩
    | true =>
      have HN7p := Lib.hid (of_decide_eq_true hc2)
      have HNZ : Hid (n = (n.toNat : Int)) := by have := HN7p.out; unfold Hid; omega
      have HN7 : Hid (n.toNat ≤ 1000) := by have := HN7p.out; unfold Hid; omega
      go_wp2_with fail
      refine (spec_l1In (cvn : Int) 1 n _).mono ?_
      rintro e u3 ⟨rfl, rfl⟩
      cases hc3 : decide (1 ≤ (cvn : Int) ∧ (cvn : Int) ≤ n) with
      | false =>
        have HLN : Hid (decide (1 ≤ (cs.length : Int) ∧ (cs.length : Int) ≤ n) = false) := by have q := of_decide_eq_false hc3; have := Ecv.out; unfold Hid; exact decide_eq_false (by omega)
        have HRE1 := Lib.hid (HR1.out.below hc)
        clear HR1
        have HBE := Lib.hid (HB.out.trans (hc.mono HB.out.size))
        have r1_0 := HRE1.out.cell (i := 0) rfl
        have r1_1 := HRE1.out.cell (i := 1) rfl
        have fr1 := fun j => HRE1.out.frozen j
        go_wp2_with fail
        have HRF := Lib.hid ((HRE1.out.set 0 ((.slice none 0 0))).set 1 ((.slice none 0 0)))
        have HBF := Lib.hid ((HBE.out.setCell (p := ⟨w.heap.size + 1, 0, none⟩) (by show w.heap.size ≤ w.heap.size + 1; omega) ((.slice none 0 0))).setCell (p := ⟨w.heap.size + 1, 1, none⟩) (by show w.heap.size ≤ w.heap.size + 1; omega) ((.slice none 0 0)))
        clear r1_0 r1_1 fr1
        have r1_0 := HRF.out.cell (i := 0) rfl
        have r1_1 := HRF.out.cell (i := 1) rfl
        try (go_wp2_with fail)
        have HVB : Hid (dlB gr cs n = false) := by unfold Hid; simp [dlB, Hhc1.out, hc2, HLN.out]
        have HPR : Hid (dlR gr cs n = ⟨[], []⟩) := by unfold Hid dlR; rw [if_neg (by rw [HVB.out]; simp)]
        refine bodyPost_ret (v := .tuple #[.agg #[(.slice none 0 0), (.slice none 0 0)], .bool false]) (by simp [results, Try.results26, go_sem, r1_0, r1_1]) rfl ⟨(by rw [HVB.out, HPR.out]; exact RetDB.mk (OwnI.nil _ _) (OwnI.nil _ _)), HBF.out⟩
      | true =>
        have HLNp : 1 ≤ (cs.length : Int) ∧ (cs.length : Int) ≤ n := by have q := of_decide_eq_true hc3; have := Ecv.out; omega
        have HLN : Hid (decide (1 ≤ (cs.length : Int) ∧ (cs.length : Int) ≤ n) = true) := decide_eq_true HLNp
        have HLNL := Lib.hid HLNp
        clear HLNp
        go_wp2_with fail
        refine (spec_gExps gr _ cs _ HG.out (Hcv.out.below (HB.out.trans (hc.mono HB.out.size)))).mono ?_
        rintro e u4 ⟨rfl, hq4⟩
        replace hc := Below.next hc hq4
        clear hq4 c0_0 c0_1 c0_2
        obtain ⟨c0_0, c0_1, c0_2⟩ := HCC.out _ hc
        cases hc4 : cs.all (expB gr) with
        | false =>
          have Hhc4 := Lib.hid hc4
          clear hc4
          have HRE1 := Lib.hid (HR1.out.below hc)
          clear HR1
          have HBE := Lib.hid (HB.out.trans (hc.mono HB.out.size))
          have r1_0 := HRE1.out.cell (i := 0) rfl
          have r1_1 := HRE1.out.cell (i := 1) rfl
          have fr1 := fun j => HRE1.out.frozen j
          go_wp2_with fail
          have HRF := Lib.hid ((HRE1.out.set 0 ((.slice none 0 0))).set 1 ((.slice none 0 0)))
          have HBF := Lib.hid ((HBE.out.setCell (p := ⟨w.heap.size + 1, 0, none⟩) (by show w.heap.size ≤ w.heap.size + 1; omega) ((.slice none 0 0))).setCell (p := ⟨w.heap.size + 1, 1, none⟩) (by show w.heap.size ≤ w.heap.size + 1; omega) ((.slice none 0 0)))
          clear r1_0 r1_1 fr1
          have r1_0 := HRF.out.cell (i := 0) rfl
          have r1_1 := HRF.out.cell (i := 1) rfl
          try (go_wp2_with fail)
          have HVB : Hid (dlB gr cs n = false) := by unfold Hid; simp [dlB, Hhc1.out, hc2, Hhc4.out, HLN.out]
          have HPR : Hid (dlR gr cs n = ⟨[], []⟩) := by unfold Hid dlR; rw [if_neg (by rw [HVB.out]; simp)]
          refine bodyPost_ret (v := .tuple #[.agg #[(.slice none 0 0), (.slice none 0 0)], .bool false]) (by simp [results, Try.results26, go_sem, r1_0, r1_1]) rfl ⟨(by rw [HVB.out, HPR.out]; exact RetDB.mk (OwnI.nil _ _) (OwnI.nil _ _)), HBF.out⟩
        | true =>
          have HC7 : Hid (cs.length ≤ 1000) := by have := of_decide_eq_true HLN.out; have := HN7p.out; unfold Hid; omega
          have HCE : Hid (∀ y ∈ cs, 0 ≤ y ∧ y ≤ 2000000010) := fun y hy => by have q := expB_bd (List.all_eq_true.1 hc4 y hy); have := HG.out.q2; have := HG.out.p2; exact ⟨q.1, by omega⟩
          have Hhc4 := Lib.hid hc4
          clear hc4
          go_wp2_with fail
          refine (spec_sDealZ gr _ cs n.toNat n _ HNZ.out HG.out (Hcv.out.below (HB.out.trans (hc.mono HB.out.size))) HCE.out HN7.out HC7.out).mono ?_
          rintro e u5 ⟨⟨x0, x1, rfl, ho0, ho1, _⟩, hq5⟩
          have hszv := hc.size
          obtain ⟨xa0, xc0, rfl⟩ := OwnI.shapeN (n := cs.length) ho0 (dcL_len ..)
          obtain ⟨xa1, xc1, rfl⟩ := OwnI.shapeN (n := n.toNat) ho1 (dsL_len ..)
          replace hc := Below.next hc hq5
          clear hq5 c0_0 c0_1 c0_2
          obtain ⟨c0_0, c0_1, c0_2⟩ := HCC.out _ hc
          have HRE1 := Lib.hid (HR1.out.below hc)
          clear HR1
          have HBE := Lib.hid (HB.out.trans (hc.mono HB.out.size))
          have r1_0 := HRE1.out.cell (i := 0) rfl
          have r1_1 := HRE1.out.cell (i := 1) rfl
          have fr1 := fun j => HRE1.out.frozen j
          go_wp2_with fail
          have HRF := Lib.hid ((HRE1.out.set 0 ((.slice xa0 cs.length xc0))).set 1 ((.slice xa1 n.toNat xc1)))
          have HBF := Lib.hid ((HBE.out.setCell (p := ⟨w.heap.size + 1, 0, none⟩) (by show w.heap.size ≤ w.heap.size + 1; omega) ((.slice xa0 cs.length xc0))).setCell (p := ⟨w.heap.size + 1, 1, none⟩) (by show w.heap.size ≤ w.heap.size + 1; omega) ((.slice xa1 n.toNat xc1)))
          clear r1_0 r1_1 fr1
          have r1_0 := HRF.out.cell (i := 0) rfl
          have r1_1 := HRF.out.cell (i := 1) rfl
          try (go_wp2_with fail)
          have HVB : Hid (dlB gr cs n = true) := by unfold Hid; simp [dlB, Hhc1.out, hc2, Hhc4.out, HLN.out]
          have HPR : Hid (dlR gr cs n = deD gr cs n) := by unfold Hid dlR; rw [if_pos (by rw [HVB.out])]
          refine bodyPost_ret (v := .tuple #[.agg #[(.slice xa0 cs.length xc0), (.slice xa1 n.toNat xc1)], .bool true]) (by simp [results, Try.results26, go_sem, r1_0, r1_1]) rfl ⟨(by rw [HVB.out, HPR.out]; exact RetDB.mk (((ho0.oth (b := w.heap.size + 1) (by omega) 0 ((.slice xa0 cs.length xc0))).oth (b := w.heap.size + 1) (by omega) 1 ((.slice xa1 n.toNat xc1))).mono (by omega)) (((ho1.oth (b := w.heap.size + 1) (by omega) 0 ((.slice xa0 cs.length xc0))).oth (b := w.heap.size + 1) (by omega) 1 ((.slice xa1 n.toNat xc1))).mono (by omega))), HBF.out⟩
end Go.Proofs.Ytacpnphfopmofaa
