/- Draws: lists of dealings to be summed (printed by gen_drsh5.py). -/
import Derived.Test.YtegomgnlhcbmfaaOwnDsS
namespace Go.Proofs.Ytegomgnlhcbmfaa
open Go.RowKit
set_option linter.unusedSimpArgs false
set_option linter.unusedVariables false
set_option maxRecDepth 100000 in
set_option maxHeartbeats 4000000 in
theorem spec_DrawSumDealings (v : Value) (w : World) (h : Bytes w v) :
    Calls Try.prog 35 #[v] w fun e w' => (∃ (P : Int) (Q : Int) (G : Int) (vr1 : Value) (lr1 : List DealingD), e = .returned (.tuple #[.agg #[.int .i64 P, .int .i64 Q, .int .i64 G], vr1]) ∧ GrB ⟨P, Q, G⟩ ∧ (RdR rDealing w' vr1 lr1 ∧ lr1.length ≤ 3)) ∧ Below w.heap.size w w' := by
  obtain ⟨a, m, c, rfl, hk1, hk2, hv⟩ := h
  have HY : Hid (Bytes w (.slice a m c)) := ⟨a, m, c, rfl, hk1, hk2, hv⟩
  clear hv
  unfold maxLen at hk2
  obtain ⟨U, hU⟩ : ∃ U, U = w.alloc (.cells #[.int .i64 0, .int .i64 0, .int .i64 0] 24) := ⟨_, rfl⟩
  have hbU : Below w.heap.size w U := by rw [hU]; (repeat (first | exact Below.refl _ _ | assumption | refine Below.drew ?_ | refine Below.alloc ?_ (by first | (simp; done) | (simp; omega)) _ | refine Below.setCell ?_ (by first | (simp; done) | (simp; omega)) _))
  have HX0 : Hid (BoxN U w.heap.size 24 [.int .i64 0, .int .i64 0, .int .i64 0]) := by unfold Hid; rw [hU]; have h := (BoxN.new w [.int .i64 0, .int .i64 0, .int .i64 0] 24); simpa using h
  have hsU : U.heap.size = w.heap.size + 1 := by rw [hU]; simp
  obtain ⟨W, hW⟩ : ∃ W, W = U.alloc (.cells #[.slice a m c, .int .i64 0, .int .u64 0] 107) := ⟨_, rfl⟩
  have HC : Hid (Cur U W U.heap.size 0) := by unfold Hid; rw [hW]; exact Cur.new U (HY.out.below hbU)
  have hbW : Below U.heap.size U W := by rw [hW]; exact (Below.refl _ _).alloc (Nat.le_refl _) _
  have HBW := Lib.hid (Below.next hbU hbW)
  have HUB := Lib.hid hbW
  replace HX0 := Lib.hid (HX0.out.below hbW)
  obtain ⟨g, hg⟩ : ∃ g, g = U.heap.size := ⟨_, rfl⟩
  have HSU : Hid (w.heap.size + 1 = g) := by unfold Hid; rw [hg, hsU]
  have HWS : Hid (W.heap.size = g + 1) := by unfold Hid; rw [hW, hg]; simp
  go_enter Try.func35, Try.ntmps35
  go_wp2_with fail
  rw [← hU, ← hW]
  rw [HSU.out]
  rw [← hg] at HC HUB
  have HUS : Hid (U.heap.size = g) := hg.symm
  have hwg : w.heap.size + 1 = g := HSU.out
  have hsW := HWS.out
  have HW := Lib.hid (Within.refl g (g + 1) W)
  have HUC : Hid (Below U.heap.size U W) := by unfold Hid; rw [HUS.out]; exact HUB.out
  clear hU hW hbU hbW hsU hg
  have z_0_0 := HX0.out.cell (i := 0) rfl
  have z_0_1 := HX0.out.cell (i := 1) rfl
  have z_0_2 := HX0.out.cell (i := 2) rfl
  try (go_wp2_with fail)
  clear z_0_0 z_0_1 z_0_2
  refine (spec_shared U g _ _ HC.out (HW.out.belowOf HUC.out (Nat.le_of_eq HUS.out)) (by omega)).mono ?_
  rintro e u1 ⟨⟨P, Q, G, rfl, P1, Q1, G1⟩, hc, hw⟩
  have HGR : Hid (GrB ⟨P, Q, G⟩) := ⟨P1, Q1, G1⟩
  clear P1 Q1 G1
  have hsz1 := hw.size
  replace HX0 := Lib.hid (HX0.out.kept hw (.inl (by omega)))
  replace HW := Lib.hid (HW.out.trans hw)
  replace HC := Lib.hid hc
  clear hc hw
  have z_0_0 := HX0.out.cell (i := 0) rfl
  have z_0_1 := HX0.out.cell (i := 1) rfl
  have z_0_2 := HX0.out.cell (i := 2) rfl
  have lt_HX0 := HX0.out.lt
  obtain ⟨V2, hV⟩ : ∃ V, V = u1.alloc (.cells #[.int .i64 P, .int .i64 Q, .int .i64 G] 24) := ⟨_, rfl⟩
  have hbV : Below u1.heap.size u1 V2 := by rw [hV]; (repeat (first | exact Below.refl _ _ | assumption | refine Below.drew ?_ | refine Below.alloc ?_ (by first | (simp; done) | (simp; omega)) _ | refine Below.setCell ?_ (by first | (simp; done) | (simp; omega)) _))
  have HZ1 : Hid (BoxN V2 u1.heap.size 24 [.int .i64 P, .int .i64 Q, .int .i64 G]) := by unfold Hid; rw [hV]; have h := (BoxN.new u1 [.int .i64 P, .int .i64 Q, .int .i64 G] 24); simpa using h
  have hgc : g < u1.heap.size := HC.out.lt
  go_wp2_with fail
  rw [← hV]
  have hsV2 : V2.heap.size = u1.heap.size + 1 := by rw [hV]; simp
  clear hV hgc
  replace HX0 := Lib.hid (HX0.out.below hbV)
  replace HW := Lib.hid (HW.out.trans (Within.of_below hbV))
  replace HC := Lib.hid (HC.out.keep hbV)
  clear hbV
  clear z_0_0 z_0_1 z_0_2
  clear lt_HX0
  refine (spec_pick U g _ 4 _ HC.out (HW.out.belowOf HUC.out (Nat.le_of_eq HUS.out)) (by omega) ).mono ?_
  rintro e u3 ⟨⟨x3, rfl, x3l, x3u, x3m, _⟩, hc, hw⟩
  replace x3m := x3m (by omega)
  have hsz3 := hw.size
  replace HX0 := Lib.hid (HX0.out.kept hw (.inl (by omega)))
  replace HZ1 := Lib.hid (HZ1.out.kept hw (.inr (by omega)))
  replace HW := Lib.hid (HW.out.trans hw)
  replace HC := Lib.hid hc
  clear hc hw
  have ew2 : IntKind.i64.wrap (1 + x3) = 1 + x3 := IntWalk.i64_in _ (by omega)
  have z_0_0 := HX0.out.cell (i := 0) rfl
  have z_0_1 := HX0.out.cell (i := 1) rfl
  have z_0_2 := HX0.out.cell (i := 2) rfl
  have z_1_0 := HZ1.out.cell (i := 0) rfl
  have z_1_1 := HZ1.out.cell (i := 1) rfl
  have z_1_2 := HZ1.out.cell (i := 2) rfl
  try (go_wp2_with fail)
  clear z_0_0 z_0_1 z_0_2 z_1_0 z_1_1 z_1_2
  refine (spec_pick U g _ (1 + x3) _ HC.out (HW.out.belowOf HUC.out (Nat.le_of_eq HUS.out)) (by omega) ).mono ?_
  rintro e u4 ⟨⟨x4, rfl, x4l, x4u, x4m, _⟩, hc, hw⟩
  have hsz4 := hw.size
  replace HX0 := Lib.hid (HX0.out.kept hw (.inl (by omega)))
  replace HZ1 := Lib.hid (HZ1.out.kept hw (.inr (by omega)))
  replace HW := Lib.hid (HW.out.trans hw)
  replace HC := Lib.hid hc
  clear hc hw
  have ew3 : IntKind.i64.wrap (1 + x4) = 1 + x4 := IntWalk.i64_in _ (by omega)
  have z_0_0 := HX0.out.cell (i := 0) rfl
  have z_0_1 := HX0.out.cell (i := 1) rfl
  have z_0_2 := HX0.out.cell (i := 2) rfl
  have z_1_0 := HZ1.out.cell (i := 0) rfl
  have z_1_1 := HZ1.out.cell (i := 1) rfl
  have z_1_2 := HZ1.out.cell (i := 2) rfl
  try (go_wp2_with fail)
  clear z_0_0 z_0_1 z_0_2 z_1_0 z_1_1 z_1_2
  refine (spec_pick U g _ 3 _ HC.out (HW.out.belowOf HUC.out (Nat.le_of_eq HUS.out)) (by omega) ).mono ?_
  rintro e u5 ⟨⟨x5, rfl, x5l, x5u, x5m, _⟩, hc, hw⟩
  replace x5m := x5m (by omega)
  have hsz5 := hw.size
  replace HX0 := Lib.hid (HX0.out.kept hw (.inl (by omega)))
  replace HZ1 := Lib.hid (HZ1.out.kept hw (.inr (by omega)))
  replace HW := Lib.hid (HW.out.trans hw)
  replace HC := Lib.hid hc
  clear hc hw
  have ew4 : IntKind.i64.wrap (1 + x5) = 1 + x5 := IntWalk.i64_in _ (by omega)
  have z_0_0 := HX0.out.cell (i := 0) rfl
  have z_0_1 := HX0.out.cell (i := 1) rfl
  have z_0_2 := HX0.out.cell (i := 2) rfl
  have z_1_0 := HZ1.out.cell (i := 0) rfl
  have z_1_1 := HZ1.out.cell (i := 1) rfl
  have z_1_2 := HZ1.out.cell (i := 2) rfl
  try (go_wp2_with fail)
  clear z_0_0 z_0_1 z_0_2 z_1_0 z_1_1 z_1_2
  obtain ⟨N0, hN0⟩ : ∃ N : Nat, (N : Int) = (1 + x5) := ⟨((1 + x5)).toNat, by omega⟩
  have hN03 : N0 ≤ 3 := by omega
  have hgU0 : g < u5.heap.size := HC.out.lt
  have hgB0 : u1.heap.size < u5.heap.size := HZ1.out.lt
  have HC0 := Lib.hid (HC.out.mono (n' := 1000) (by omega))
  clear HC
  have hN0' : (.int .i64 ((1 + x5)) : Value) = .int .i64 (N0 : Int) := by rw [hN0]
  rw [hN0']
  clear hN0'
  have HN0 := Lib.hid hN0
  clear hN0
  go_loopg [8, 9] N0 (fun gk lv iv wr => ∃ (l : List DealingD), iv = .int .i64 (gk : Int) ∧ l.length + gk ≤ 3 ∧ Hid (OwnDs wr u5.heap.size lv l) ∧ Hid (Cur U wr g (1000 + 1000000 * (l.length : Int))) ∧ Hid (Within g (g + 1) u5 wr))
  case atStart => exact ⟨[], rfl, by simpa using hN03, OwnDs.nil _ _, HC0.out.mono (by omega), Within.refl _ _ _⟩
  case round =>
    obtain ⟨l, rfl, hlg, HO, HC, HWz⟩ := hrel
    have hsr := HWz.out.size
    have HGb := Lib.hid (HZ1.out.kept HWz.out (.inr (by omega)))
    obtain ⟨ao, no, co, rfl⟩ := HO.out.rd.shape
    by_cases hlt : 0 < gk
    · have hd : decide ((0 : Int) < (gk : Int)) = true := decide_eq_true (by omega)
      have hgk1 : gk - 1 < gk := by omega
      have ewk : IntKind.i64.wrap ((gk : Int) - 1) = ((gk - 1 : Nat) : Int) := by rw [show (gk : Int) - 1 = ((gk - 1 : Nat) : Int) by omega]; exact IntWalk.i64_in _ (by omega)
      go_wp2_with fail
      refine (spec_one U g _ 16 _ HC.out ((HW.out.trans HWz.out).belowOf (HUC.out) (Nat.le_of_eq HUS.out)) (by omega)).mono ?_
      rintro e w5 ⟨⟨b5, rfl⟩, hc, hw⟩
      have hs5 := hw.size
      replace HO := Lib.hid (HO.out.within hw (by omega))
      replace HGb := Lib.hid (HGb.out.kept hw (.inr (by omega)))
      replace HC := Lib.hid hc
      replace HWz := Lib.hid (HWz.out.trans hw)
      clear hc hw
      cases b5 with
      | true =>
        have c0 := HGb.out.cell (i := 0) rfl
        have c1 := HGb.out.cell (i := 1) rfl
        have c2 := HGb.out.cell (i := 2) rfl
        go_upto_region 10 with fail
        go_wp2_with fail
        clear c0 c1 c2
        refine (spec_anyDealing U g _ P Q G _ HC.out ((HW.out.trans HWz.out).belowOf (HUC.out) (Nat.le_of_eq HUS.out)) (by omega) HGR.out).mono ?_
        rintro e u20 ⟨⟨x9, y9, lx, ly, rfl, ⟨hox, hlx⟩, ⟨hoy, hly⟩⟩, hc, hw⟩
        have hs20 := hw.size
        obtain ⟨xa, xc, rfl⟩ := hox.shape
        obtain ⟨ya, yc, rfl⟩ := hoy.shape
        obtain ⟨xn, hxn⟩ : ∃ z, lx.length = z := ⟨_, rfl⟩
        obtain ⟨yn, hyn⟩ : ∃ z, ly.length = z := ⟨_, rfl⟩
        rw [hxn] at hox
        rw [hyn] at hoy
        rw [hxn, hyn]
        clear hxn hyn
        replace HO := Lib.hid (HO.out.within hw (by omega))
        replace HC := Lib.hid hc
        replace HWz := Lib.hid (HWz.out.trans hw)
        have HXo := Lib.hid (hox.mono (show u5.heap.size ≤ _ by omega))
        have HYo := Lib.hid (hoy.mono (show u5.heap.size ≤ _ by omega))
        clear hc hw hox hoy
        go_wp2_with (at_builtin; refine wpList_append_Ds rfl _ _ rfl rfl rfl (b := u20.heap.size) (d := ⟨lx, ly⟩) (HO.out.below ((Below.refl _ _).alloc (Nat.le_refl _) _)) (HXo.out.below ((Below.refl _ _).alloc (Nat.le_refl _) _)) (HYo.out.below ((Below.refl _ _).alloc (Nat.le_refl _) _)) (BoxN.new u20 _ _) (by simp; omega) (by omega) ?_; intro v9 w9 hown9 hb9)
        have hb9' : Below u5.heap.size u20 w9 := ((Below.refl _ _).alloc (by omega) _).trans hb9
        clear hb9
        have hdl : l.length + 1 + (gk - 1) ≤ 3 := by omega
        go_roundg (gk - 1)
        case measure => omega
        case rel => exact ⟨l ++ [⟨lx, ly⟩], by first | rfl | (congr 1; omega), by rw [List.length_append]; exact hdl, Lib.hid hown9, Lib.hid ((HC.out.belowB hb9' (by omega)).mono (by rw [List.length_append]; simp only [List.length_cons, List.length_nil]; omega)), Lib.hid (HWz.out.belowStep hb9')⟩
      | false =>
        have c0 := HGb.out.cell (i := 0) rfl
        have c1 := HGb.out.cell (i := 1) rfl
        have c2 := HGb.out.cell (i := 2) rfl
        go_wp2_with fail
        refine (spec_sGroup ⟨P, Q, G⟩ _).mono ?_
        rintro e uS ⟨rfl, hb⟩
        have hsS := hb.size
        replace HO := Lib.hid (HO.out.below hb)
        replace HGb := Lib.hid (HGb.out.below hb)
        replace HC := Lib.hid (HC.out.keep hb)
        replace HWz := Lib.hid (HWz.out.trans (Within.of_below hb))
        clear hb c0 c1 c2
        obtain ⟨bq, hq⟩ : ∃ z, shG ⟨P, Q, G⟩ = z := ⟨_, rfl⟩
        have HQ := Lib.hid hq
        rw [hq]
        clear hq
        cases bq with
        | false =>
          have c0 := HGb.out.cell (i := 0) rfl
          have c1 := HGb.out.cell (i := 1) rfl
          have c2 := HGb.out.cell (i := 2) rfl
          go_upto_region 10 with fail
          go_wp2_with fail
          clear c0 c1 c2
          refine (spec_anyDealing U g _ P Q G _ HC.out ((HW.out.trans HWz.out).belowOf (HUC.out) (Nat.le_of_eq HUS.out)) (by omega) HGR.out).mono ?_
          rintro e u21 ⟨⟨x9, y9, lx, ly, rfl, ⟨hox, hlx⟩, ⟨hoy, hly⟩⟩, hc, hw⟩
          have hs21 := hw.size
          obtain ⟨xa, xc, rfl⟩ := hox.shape
          obtain ⟨ya, yc, rfl⟩ := hoy.shape
          obtain ⟨xn, hxn⟩ : ∃ z, lx.length = z := ⟨_, rfl⟩
          obtain ⟨yn, hyn⟩ : ∃ z, ly.length = z := ⟨_, rfl⟩
          rw [hxn] at hox
          rw [hyn] at hoy
          rw [hxn, hyn]
          clear hxn hyn
          replace HO := Lib.hid (HO.out.within hw (by omega))
          replace HC := Lib.hid hc
          replace HWz := Lib.hid (HWz.out.trans hw)
          have HXo := Lib.hid (hox.mono (show u5.heap.size ≤ _ by omega))
          have HYo := Lib.hid (hoy.mono (show u5.heap.size ≤ _ by omega))
          clear hc hw hox hoy
          go_wp2_with (at_builtin; refine wpList_append_Ds rfl _ _ rfl rfl rfl (b := u21.heap.size) (d := ⟨lx, ly⟩) (HO.out.below ((Below.refl _ _).alloc (Nat.le_refl _) _)) (HXo.out.below ((Below.refl _ _).alloc (Nat.le_refl _) _)) (HYo.out.below ((Below.refl _ _).alloc (Nat.le_refl _) _)) (BoxN.new u21 _ _) (by simp; omega) (by omega) ?_; intro v9 w9 hown9 hb9)
          have hb9' : Below u5.heap.size u21 w9 := ((Below.refl _ _).alloc (by omega) _).trans hb9
          clear hb9
          have hdl : l.length + 1 + (gk - 1) ≤ 3 := by omega
          go_roundg (gk - 1)
          case measure => omega
          case rel => exact ⟨l ++ [⟨lx, ly⟩], by first | rfl | (congr 1; omega), by rw [List.length_append]; exact hdl, Lib.hid hown9, Lib.hid ((HC.out.belowB hb9' (by omega)).mono (by rw [List.length_append]; simp only [List.length_cons, List.length_nil]; omega)), Lib.hid (HWz.out.belowStep hb9')⟩
        | true =>
          have hok := shG_ok HQ.out
          obtain ⟨T, hT⟩ : ∃ T : Nat, (T : Int) = (1 + x4) := ⟨((1 + x4)).toNat, by omega⟩
          obtain ⟨N, hN⟩ : ∃ N : Nat, (N : Int) = (1 + x3) := ⟨((1 + x3)).toNat, by omega⟩
          have hT4 : T ≤ 1000 := by omega
          have hN4 : N ≤ 1000 := by omega
          have HT := Lib.hid hT
          have HN := Lib.hid hN
          clear hT hN
          go_upto_region 11 with fail
          have c0 := HGb.out.cell (i := 0) rfl
          have c1 := HGb.out.cell (i := 1) rfl
          have c2 := HGb.out.cell (i := 2) rfl
          refine wp_region_noPanic ?_
          refine wp_region_V (fun w' => w'.cell? ⟨u1.heap.size, 0, none⟩ = some (.int .i64 P) ∧ w'.cell? ⟨u1.heap.size, 1, none⟩ = some (.int .i64 Q) ∧ w'.cell? ⟨u1.heap.size, 2, none⟩ = some (.int .i64 G)) 13 9 (.rd 0 (.rd 1 (.rd 2 (.rd 3 (.rd 4 (.rd 6 (.alt 5 (.alt 7 (.alt 8 .done .nil) .nil) .nil))))))) [9, 10] (by kernel_rfl) (by kernel_rfl) rfl (fun _ _ _ _ _ h => h) ⟨box_at c0 (Below.refl _ _).drew, box_at c1 (Below.refl _ _).drew, box_at c2 (Below.refl _ _).drew⟩ ?_
          simp only [pickV, pickN, List.getElem?_cons_zero, List.getElem?_cons_succ]
          repeat (refine' wpV_read _ (by kernel_rfl) (fun w' hS' => ?_) ?_; rotate_left; (focus ((try dsimp only at hS'); go_simp; (try with_reducible rfl))); (try simp only [Act.put, List.setIfInBounds_toArray, List.set_cons_zero, List.set_cons_succ]))
          have hdr : Below uS.heap.size uS uS.drew := (Below.refl _ _).drew
          have hszd := hdr.size
          replace HO := Lib.hid (HO.out.below hdr)
          replace HGb := Lib.hid (HGb.out.below hdr)
          replace HC := Lib.hid (HC.out.keep hdr)
          replace HWz := Lib.hid (HWz.out.trans (Within.of_below hdr))
          clear hdr c0 c1 c2
          refine wpV_do (by kernel_rfl) (fun K hK => ?_)
          go_simp
          go_at_call 132
          have hC10 := spec_coins U g _ P Q G T _ HC.out ((HW.out.trans HWz.out).belowOf (HUC.out) (Nat.le_of_eq HUS.out)) (by omega) HGR.out hT4
          rw [HT.out] at hC10
          refine hC10.mono ?_
          clear hC10
          rintro e u10 ⟨⟨v10, l10, rfl, ho10, hl10, he10⟩, hc, hw⟩
          have hs10 := hw.size
          replace HO := Lib.hid (HO.out.within hw (by omega))
          replace HGb := Lib.hid (HGb.out.kept hw (.inr (by omega)))
          replace HC := Lib.hid hc
          replace HWz := Lib.hid (HWz.out.trans hw)
          have HI := Lib.hid ho10.ints
          clear hc hw ho10
          have c0 := HGb.out.cell (i := 0) rfl
          have c1 := HGb.out.cell (i := 1) rfl
          have c2 := HGb.out.cell (i := 2) rfl
          refine hK.out _ _ ⟨c0, c1, c2⟩ (fun _ => ?_)
          clear hK K
          (try simp only [Act.put, List.setIfInBounds_toArray, List.set_cons_zero, List.set_cons_succ])
          refine wpV_do (by kernel_rfl) (fun K hK => ?_)
          go_simp
          go_at_call 131
          have hC11 := spec_sDeal ⟨P, Q, G⟩ v10 l10 N _ hok HI.out he10 hN4 (by rw [hl10]; exact hT4)
          rw [HN.out] at hC11
          refine hC11.mono ?_
          clear hC11
          rintro e u11 ⟨⟨x9, y9, rfl, hox, hoy, _⟩, hb⟩
          have hs11 := hb.size
          obtain ⟨lx, hlx⟩ : ∃ z, dcL ⟨P, Q, G⟩ l10 l10.length = z := ⟨_, rfl⟩
          obtain ⟨ly, hly⟩ : ∃ z, dsL ⟨P, Q, G⟩ l10 N = z := ⟨_, rfl⟩
          rw [hlx] at hox
          rw [hly] at hoy
          clear hlx hly
          obtain ⟨xa, xc, rfl⟩ := hox.shape
          obtain ⟨ya, yc, rfl⟩ := hoy.shape
          obtain ⟨xn, hxn⟩ : ∃ z, lx.length = z := ⟨_, rfl⟩
          obtain ⟨yn, hyn⟩ : ∃ z, ly.length = z := ⟨_, rfl⟩
          rw [hxn] at hox
          rw [hyn] at hoy
          rw [hxn, hyn]
          clear hxn hyn
          replace HO := Lib.hid (HO.out.below hb)
          replace HGb := Lib.hid (HGb.out.below hb)
          replace HC := Lib.hid (HC.out.keep hb)
          replace HWz := Lib.hid (HWz.out.trans (Within.of_below hb))
          have HXo := Lib.hid (hox.mono (show u5.heap.size ≤ _ by omega))
          have HYo := Lib.hid (hoy.mono (show u5.heap.size ≤ _ by omega))
          clear hb hox hoy c0 c1 c2
          have c0 := HGb.out.cell (i := 0) rfl
          have c1 := HGb.out.cell (i := 1) rfl
          have c2 := HGb.out.cell (i := 2) rfl
          refine hK.out _ _ ⟨c0, c1, c2⟩ (fun _ => ?_)
          clear hK K
          (try simp only [Act.put, List.setIfInBounds_toArray, List.set_cons_zero, List.set_cons_succ])
          refine wpV_do (by kernel_rfl) (fun K hK => ?_)
          go_simp
          have hb12 := (Below.refl u11.heap.size u11).alloc (Nat.le_refl _) (.cells #[.slice xa xn xc, .slice ya yn yc] 66)
          refine hK.out _ _ ⟨box_at c0 hb12, box_at c1 hb12, box_at c2 hb12⟩ (fun _ => ?_)
          clear hK K hb12 c0 c1 c2
          (try simp only [Act.put, List.setIfInBounds_toArray, List.set_cons_zero, List.set_cons_succ])
          refine wpV_done ?_
          go_wp2_with (at_builtin; refine wpList_append_Ds rfl _ _ rfl rfl rfl (b := u11.heap.size) (d := ⟨lx, ly⟩) (HO.out.below ((Below.refl _ _).alloc (Nat.le_refl _) _)) (HXo.out.below ((Below.refl _ _).alloc (Nat.le_refl _) _)) (HYo.out.below ((Below.refl _ _).alloc (Nat.le_refl _) _)) (BoxN.new u11 _ _) (by simp; omega) (by omega) ?_; intro v9 w9 hown9 hb9)
          refine NoPanic.normal ?_
          (try go_wp2_with fail)
          have hb9' : Below u5.heap.size u11 w9 := ((Below.refl _ _).alloc (by omega) _).trans hb9
          clear hb9
          have hdl : l.length + 1 + (gk - 1) ≤ 3 := by omega
          go_roundg (gk - 1)
          case measure => omega
          case rel => exact ⟨l ++ [⟨lx, ly⟩], by first | rfl | (congr 1; omega), by rw [List.length_append]; exact hdl, Lib.hid hown9, Lib.hid ((HC.out.belowB hb9' (by omega)).mono (by rw [List.length_append]; simp only [List.length_cons, List.length_nil]; omega)), Lib.hid (HWz.out.belowStep hb9')⟩
    · obtain rfl : gk = 0 := by omega
      have hd : decide ((0 : Int) < ((0 : Nat) : Int)) = false := rfl
      clear hlt
      replace HX0 := Lib.hid (HX0.out.kept HWz.out (.inl (by omega)))
      replace HZ1 := Lib.hid (HZ1.out.kept HWz.out (.inr (by omega)))
      have HE6 : Hid (l.length ≤ 3) := by unfold Hid; omega
      replace HW := Lib.hid (HW.out.trans HWz.out)
      replace HC := Lib.hid (HC.out.mono (n' := 10000000) (by omega))
      have HL6 : Hid (Since u5.heap.size wr (fun z => RdR rDealing z (.slice ao no co) l)) := Since.of_ownDs HO.out (Nat.le_refl _)
      clear HWz HO HGb
      have z_0_0 := HX0.out.cell (i := 0) rfl
      have z_0_1 := HX0.out.cell (i := 1) rfl
      have z_0_2 := HX0.out.cell (i := 2) rfl
      have z_1_0 := HZ1.out.cell (i := 0) rfl
      have z_1_1 := HZ1.out.cell (i := 1) rfl
      have z_1_2 := HZ1.out.cell (i := 2) rfl
      try (go_wp2_with fail)
      clear z_0_0 z_0_1 z_0_2 z_1_0 z_1_1 z_1_2
      refine (spec_one U g _ 20 _ HC.out (HW.out.belowOf HUC.out (Nat.le_of_eq HUS.out)) (by omega) ).mono ?_
      rintro e u7 ⟨⟨b7, rfl⟩, hc, hw⟩
      have hsz7 := hw.size
      replace HX0 := Lib.hid (HX0.out.kept hw (.inl (by omega)))
      replace HZ1 := Lib.hid (HZ1.out.kept hw (.inr (by omega)))
      replace HL6 := Lib.hid (HL6.out.within hw (by omega))
      replace HW := Lib.hid (HW.out.trans hw)
      replace HC := Lib.hid hc
      clear hc hw
      cases b7 with
      | false =>
        have z_1_0 := HZ1.out.cell (i := 0) rfl
        have z_1_1 := HZ1.out.cell (i := 1) rfl
        have z_1_2 := HZ1.out.cell (i := 2) rfl
        have r_HX0_0 := HX0.out.cell (i := 0) rfl
        have r_HX0_1 := HX0.out.cell (i := 1) rfl
        have r_HX0_2 := HX0.out.cell (i := 2) rfl
        have fr_HX0 := fun j => HX0.out.frozen j
        go_wp2_with fail
        have FHX0 := Lib.hid (((HX0.out.set 0 (.int .i64 P)).set 1 (.int .i64 Q)).set 2 (.int .i64 G))
        clear z_1_0 z_1_1 z_1_2 r_HX0_0 r_HX0_1 r_HX0_2 fr_HX0
        have t_HX0_0 := FHX0.out.cell (i := 0) rfl
        have t_HX0_1 := FHX0.out.cell (i := 1) rfl
        have t_HX0_2 := FHX0.out.cell (i := 2) rfl
        try (go_wp2_with fail)
        have HYS := Lib.hid ((((Within.refl w.heap.size (w.heap.size + 1) u7).setCell (b := w.heap.size) (by omega) (by omega) 0 (.int .i64 P)).setCell (b := w.heap.size) (by omega) (by omega) 1 (.int .i64 Q)).setCell (b := w.heap.size) (by omega) (by omega) 2 (.int .i64 G))
        refine bodyPost_ret (v := .tuple #[.agg #[.int .i64 P, .int .i64 Q, .int .i64 G], .slice ao no co]) (by simp [results, Try.results35, go_sem, t_HX0_0, t_HX0_1, t_HX0_2]) rfl ⟨⟨_, _, _, _, _, rfl, HGR.out, ⟨(HL6.out.within HYS.out (by omega)).here, by have := HE6.out; omega⟩⟩, ((((HW.out.belowOf HBW.out (by omega)).setCell (p := ⟨w.heap.size, 0, none⟩) (by show w.heap.size ≤ w.heap.size; omega) (.int .i64 P)).setCell (p := ⟨w.heap.size, 1, none⟩) (by show w.heap.size ≤ w.heap.size; omega) (.int .i64 Q)).setCell (p := ⟨w.heap.size, 2, none⟩) (by show w.heap.size ≤ w.heap.size; omega) (.int .i64 G))⟩
      | true =>
        have HLz : Hid (Since u7.heap.size u7 (fun z => RdR rDealing z (.slice none 0 0) [])) := Since.of_ownDs (OwnDs.nil u7 u7.heap.size) (Nat.le_refl _)
        have HEz : Hid (([] : List DealingD).length ≤ 3) := by unfold Hid; decide
        have z_1_0 := HZ1.out.cell (i := 0) rfl
        have z_1_1 := HZ1.out.cell (i := 1) rfl
        have z_1_2 := HZ1.out.cell (i := 2) rfl
        have r_HX0_0 := HX0.out.cell (i := 0) rfl
        have r_HX0_1 := HX0.out.cell (i := 1) rfl
        have r_HX0_2 := HX0.out.cell (i := 2) rfl
        have fr_HX0 := fun j => HX0.out.frozen j
        go_wp2_with fail
        have FHX0 := Lib.hid (((HX0.out.set 0 (.int .i64 P)).set 1 (.int .i64 Q)).set 2 (.int .i64 G))
        clear z_1_0 z_1_1 z_1_2 r_HX0_0 r_HX0_1 r_HX0_2 fr_HX0
        have t_HX0_0 := FHX0.out.cell (i := 0) rfl
        have t_HX0_1 := FHX0.out.cell (i := 1) rfl
        have t_HX0_2 := FHX0.out.cell (i := 2) rfl
        try (go_wp2_with fail)
        have HYS := Lib.hid ((((Within.refl w.heap.size (w.heap.size + 1) u7).setCell (b := w.heap.size) (by omega) (by omega) 0 (.int .i64 P)).setCell (b := w.heap.size) (by omega) (by omega) 1 (.int .i64 Q)).setCell (b := w.heap.size) (by omega) (by omega) 2 (.int .i64 G))
        refine bodyPost_ret (v := .tuple #[.agg #[.int .i64 P, .int .i64 Q, .int .i64 G], .slice none 0 0]) (by simp [results, Try.results35, go_sem, t_HX0_0, t_HX0_1, t_HX0_2]) rfl ⟨⟨_, _, _, _, _, rfl, HGR.out, ⟨(HLz.out.within HYS.out (by omega)).here, by have := HEz.out; omega⟩⟩, ((((HW.out.belowOf HBW.out (by omega)).setCell (p := ⟨w.heap.size, 0, none⟩) (by show w.heap.size ≤ w.heap.size; omega) (.int .i64 P)).setCell (p := ⟨w.heap.size, 1, none⟩) (by show w.heap.size ≤ w.heap.size; omega) (.int .i64 Q)).setCell (p := ⟨w.heap.size, 2, none⟩) (by show w.heap.size ≤ w.heap.size; omega) (.int .i64 G))⟩
end Go.Proofs.Ytegomgnlhcbmfaa
