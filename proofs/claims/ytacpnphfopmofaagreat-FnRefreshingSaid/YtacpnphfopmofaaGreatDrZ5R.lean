/- Draws: masked shares (printed by gen_drz5.py). -/
import Derived.Test.YtacpnphfopmofaaGreatDsAR
namespace Go.Proofs.YtacpnphfopmofaaGreat
open Go.RowKit
set_option linter.unusedSimpArgs false
set_option linter.unusedVariables false
set_option maxRecDepth 100000 in
set_option maxHeartbeats 8000000 in
theorem spec_DrawMaskedShares (v : Value) (w : World) (h : Bytes w v) :
    Calls Tryz.prog 8 #[v] w fun e w' => (∃ (P : Int) (Q : Int) (G : Int) (vr1a : Value) (vr1b : Value) (lr1a : List Int) (lr1b : List Int) (xr2 : Int) (vr3 : Value) (lr3 : List DealingD), e = .returned (.tuple #[.agg #[.int .i64 P, .int .i64 Q, .int .i64 G], .agg #[vr1a, vr1b], .int .i64 xr2, vr3]) ∧ GrB ⟨P, Q, G⟩ ∧ (Ints w' vr1a lr1a ∧ lr1a.length ≤ 7) ∧ (Ints w' vr1b lr1b ∧ lr1b.length ≤ 7) ∧ (-10 ≤ xr2 ∧ xr2 ≤ 2000000010) ∧ (RdR rDealing w' vr3 lr3 ∧ lr3.length ≤ 6)) ∧ Below w.heap.size w w' := by
  obtain ⟨a, m, c, rfl, hk1, hk2, hv⟩ := h
  have HY : Hid (Bytes w (.slice a m c)) := ⟨a, m, c, rfl, hk1, hk2, hv⟩
  clear hv
  unfold maxLen at hk2
  obtain ⟨U, hU⟩ : ∃ U, U = (w.alloc (.cells #[.int .i64 0, .int .i64 0, .int .i64 0] 24)).alloc (.cells #[(.slice none 0 0), (.slice none 0 0)] 27) := ⟨_, rfl⟩
  have hbU : Below w.heap.size w U := by rw [hU]; (repeat (first | exact Below.refl _ _ | assumption | refine Below.drew ?_ | refine Below.alloc ?_ (by first | (simp; done) | (simp; omega)) _ | refine Below.setCell ?_ (by first | (simp; done) | (simp; omega)) _))
  have HX0 : Hid (BoxN U w.heap.size 24 [.int .i64 0, .int .i64 0, .int .i64 0]) := by unfold Hid; rw [hU]; have h := ((BoxN.new w [.int .i64 0, .int .i64 0, .int .i64 0] 24).alloc (.cells #[(.slice none 0 0), (.slice none 0 0)] 27)); simpa using h
  have HX1 : Hid (BoxN U (w.heap.size + 1) 27 [(.slice none 0 0), (.slice none 0 0)]) := by unfold Hid; rw [hU]; have h := (BoxN.new (w.alloc (.cells #[.int .i64 0, .int .i64 0, .int .i64 0] 24)) [(.slice none 0 0), (.slice none 0 0)] 27); simpa using h
  have hsU : U.heap.size = w.heap.size + 1 + 1 := by rw [hU]; simp
  obtain ⟨W, hW⟩ : ∃ W, W = U.alloc (.cells #[.slice a m c, .int .i64 0, .int .u64 0] 53) := ⟨_, rfl⟩
  have HC : Hid (Cur U W U.heap.size 0) := by unfold Hid; rw [hW]; exact Cur.new U (HY.out.below hbU)
  have hbW : Below U.heap.size U W := by rw [hW]; exact (Below.refl _ _).alloc (Nat.le_refl _) _
  have HBW := Lib.hid (Below.next hbU hbW)
  have HUB := Lib.hid hbW
  replace HX0 := Lib.hid (HX0.out.below hbW)
  replace HX1 := Lib.hid (HX1.out.below hbW)
  obtain ⟨g, hg⟩ : ∃ g, g = U.heap.size := ⟨_, rfl⟩
  have HSU : Hid (w.heap.size + 1 + 1 = g) := by unfold Hid; rw [hg, hsU]
  have HWS : Hid (W.heap.size = g + 1) := by unfold Hid; rw [hW, hg]; simp
  go_enter Tryz.func8, Tryz.ntmps8
  go_wp2_with fail
  rw [← hU, ← hW]
  rw [HSU.out]
  rw [← hg] at HC HUB
  have HUS : Hid (U.heap.size = g) := hg.symm
  have hwg : w.heap.size + 2 = g := HSU.out
  have hsW := HWS.out
  have HW := Lib.hid (Within.refl g (g + 1) W)
  have HUC : Hid (Below U.heap.size U W) := by unfold Hid; rw [HUS.out]; exact HUB.out
  clear hU hW hbU hbW hsU hg
  have z_0_0 := HX0.out.cell (i := 0) rfl
  have z_0_1 := HX0.out.cell (i := 1) rfl
  have z_0_2 := HX0.out.cell (i := 2) rfl
  have z_1_0 := HX1.out.cell (i := 0) rfl
  have z_1_1 := HX1.out.cell (i := 1) rfl
  try (go_wp2_with fail)
  clear z_0_0 z_0_1 z_0_2 z_1_0 z_1_1
  refine (spec_shared U g _ _ HC.out (HW.out.belowOf HUC.out (Nat.le_of_eq HUS.out)) (by omega)).mono ?_
  rintro e u1 ⟨⟨P, Q, G, rfl, P1, Q1, G1⟩, hc, hw⟩
  have HGR : Hid (GrB ⟨P, Q, G⟩) := ⟨P1, Q1, G1⟩
  clear P1 Q1 G1
  have hsz1 := hw.size
  replace HX0 := Lib.hid (HX0.out.kept hw (.inl (by omega)))
  replace HX1 := Lib.hid (HX1.out.kept hw (.inl (by omega)))
  replace HW := Lib.hid (HW.out.trans hw)
  replace HC := Lib.hid hc
  clear hc hw
  have z_0_0 := HX0.out.cell (i := 0) rfl
  have z_0_1 := HX0.out.cell (i := 1) rfl
  have z_0_2 := HX0.out.cell (i := 2) rfl
  have z_1_0 := HX1.out.cell (i := 0) rfl
  have z_1_1 := HX1.out.cell (i := 1) rfl
  have lt_HX0 := HX0.out.lt
  have lt_HX1 := HX1.out.lt
  obtain ⟨V2, hV⟩ : ∃ V, V = u1.alloc (.cells #[.int .i64 P, .int .i64 Q, .int .i64 G] 24) := ⟨_, rfl⟩
  have hbV : Below u1.heap.size u1 V2 := by rw [hV]; (repeat (first | exact Below.refl _ _ | assumption | refine Below.drew ?_ | refine Below.alloc ?_ (by first | (simp; done) | (simp; omega)) _ | refine Below.setCell ?_ (by first | (simp; done) | (simp; omega)) _))
  have HZ1 : Hid (BoxN V2 u1.heap.size 24 [.int .i64 P, .int .i64 Q, .int .i64 G]) := by unfold Hid; rw [hV]; have h := (BoxN.new u1 [.int .i64 P, .int .i64 Q, .int .i64 G] 24); simpa using h
  have hgc : g < u1.heap.size := HC.out.lt
  go_wp2_with fail
  rw [← hV]
  have hsV2 : V2.heap.size = u1.heap.size + 1 := by rw [hV]; simp
  clear hV hgc
  replace HX0 := Lib.hid (HX0.out.below hbV)
  replace HX1 := Lib.hid (HX1.out.below hbV)
  replace HW := Lib.hid (HW.out.trans (Within.of_below hbV))
  replace HC := Lib.hid (HC.out.keep hbV)
  clear hbV
  clear z_0_0 z_0_1 z_0_2 z_1_0 z_1_1
  clear lt_HX0
  clear lt_HX1
  refine (spec_pick U g _ 4 _ HC.out (HW.out.belowOf HUC.out (Nat.le_of_eq HUS.out)) (by omega) ).mono ?_
  rintro e u3 ⟨⟨x3, rfl, x3l, x3u, x3m, _⟩, hc, hw⟩
  replace x3m := x3m (by omega)
  have hsz3 := hw.size
  replace HX0 := Lib.hid (HX0.out.kept hw (.inl (by omega)))
  replace HX1 := Lib.hid (HX1.out.kept hw (.inl (by omega)))
  replace HZ1 := Lib.hid (HZ1.out.kept hw (.inr (by omega)))
  replace HW := Lib.hid (HW.out.trans hw)
  replace HC := Lib.hid hc
  clear hc hw
  have ew2 : IntKind.i64.wrap (2 + x3) = 2 + x3 := IntWalk.i64_in _ (by omega)
  have ew3 : IntKind.i64.wrap ((2 + x3) - 1) = (2 + x3) - 1 := IntWalk.i64_in _ (by omega)
  have z_0_0 := HX0.out.cell (i := 0) rfl
  have z_0_1 := HX0.out.cell (i := 1) rfl
  have z_0_2 := HX0.out.cell (i := 2) rfl
  have z_1_0 := HX1.out.cell (i := 0) rfl
  have z_1_1 := HX1.out.cell (i := 1) rfl
  have z_2_0 := HZ1.out.cell (i := 0) rfl
  have z_2_1 := HZ1.out.cell (i := 1) rfl
  have z_2_2 := HZ1.out.cell (i := 2) rfl
  try (go_wp2_with fail)
  clear z_0_0 z_0_1 z_0_2 z_1_0 z_1_1 z_2_0 z_2_1 z_2_2
  refine (spec_pick U g _ ((2 + x3) - 1) _ HC.out (HW.out.belowOf HUC.out (Nat.le_of_eq HUS.out)) (by omega) ).mono ?_
  rintro e u4 ⟨⟨x4, rfl, x4l, x4u, x4m, _⟩, hc, hw⟩
  have hsz4 := hw.size
  replace HX0 := Lib.hid (HX0.out.kept hw (.inl (by omega)))
  replace HX1 := Lib.hid (HX1.out.kept hw (.inl (by omega)))
  replace HZ1 := Lib.hid (HZ1.out.kept hw (.inr (by omega)))
  replace HW := Lib.hid (HW.out.trans hw)
  replace HC := Lib.hid hc
  clear hc hw
  have ew4 : IntKind.i64.wrap (2 + x4) = 2 + x4 := IntWalk.i64_in _ (by omega)
  have z_0_0 := HX0.out.cell (i := 0) rfl
  have z_0_1 := HX0.out.cell (i := 1) rfl
  have z_0_2 := HX0.out.cell (i := 2) rfl
  have z_1_0 := HX1.out.cell (i := 0) rfl
  have z_1_1 := HX1.out.cell (i := 1) rfl
  have z_2_0 := HZ1.out.cell (i := 0) rfl
  have z_2_1 := HZ1.out.cell (i := 1) rfl
  have z_2_2 := HZ1.out.cell (i := 2) rfl
  try (go_wp2_with fail)
  clear z_0_0 z_0_1 z_0_2 z_1_0 z_1_1 z_2_0 z_2_1 z_2_2
  refine (spec_pick U g _ (2 + x3) _ HC.out (HW.out.belowOf HUC.out (Nat.le_of_eq HUS.out)) (by omega) ).mono ?_
  rintro e u5 ⟨⟨x5, rfl, x5l, x5u, x5m, _⟩, hc, hw⟩
  have hsz5 := hw.size
  replace HX0 := Lib.hid (HX0.out.kept hw (.inl (by omega)))
  replace HX1 := Lib.hid (HX1.out.kept hw (.inl (by omega)))
  replace HZ1 := Lib.hid (HZ1.out.kept hw (.inr (by omega)))
  replace HW := Lib.hid (HW.out.trans hw)
  replace HC := Lib.hid hc
  clear hc hw
  have ew5 : IntKind.i64.wrap (1 + x5) = 1 + x5 := IntWalk.i64_in _ (by omega)
  have z_0_0 := HX0.out.cell (i := 0) rfl
  have z_0_1 := HX0.out.cell (i := 1) rfl
  have z_0_2 := HX0.out.cell (i := 2) rfl
  have z_1_0 := HX1.out.cell (i := 0) rfl
  have z_1_1 := HX1.out.cell (i := 1) rfl
  have z_2_0 := HZ1.out.cell (i := 0) rfl
  have z_2_1 := HZ1.out.cell (i := 1) rfl
  have z_2_2 := HZ1.out.cell (i := 2) rfl
  try (go_wp2_with fail)
  clear z_0_0 z_0_1 z_0_2 z_1_0 z_1_1 z_2_0 z_2_1 z_2_2
  refine (spec_pick U g _ 4 _ HC.out (HW.out.belowOf HUC.out (Nat.le_of_eq HUS.out)) (by omega) ).mono ?_
  rintro e u6 ⟨⟨x6, rfl, x6l, x6u, x6m, _⟩, hc, hw⟩
  replace x6m := x6m (by omega)
  have hsz6 := hw.size
  replace HX0 := Lib.hid (HX0.out.kept hw (.inl (by omega)))
  replace HX1 := Lib.hid (HX1.out.kept hw (.inl (by omega)))
  replace HZ1 := Lib.hid (HZ1.out.kept hw (.inr (by omega)))
  replace HW := Lib.hid (HW.out.trans hw)
  replace HC := Lib.hid hc
  clear hc hw
  have z_0_0 := HX0.out.cell (i := 0) rfl
  have z_0_1 := HX0.out.cell (i := 1) rfl
  have z_0_2 := HX0.out.cell (i := 2) rfl
  have z_1_0 := HX1.out.cell (i := 0) rfl
  have z_1_1 := HX1.out.cell (i := 1) rfl
  have z_2_0 := HZ1.out.cell (i := 0) rfl
  have z_2_1 := HZ1.out.cell (i := 1) rfl
  have z_2_2 := HZ1.out.cell (i := 2) rfl
  try (go_wp2_with fail)
  clear z_0_0 z_0_1 z_0_2 z_1_0 z_1_1 z_2_0 z_2_1 z_2_2
  obtain ⟨uE, rfl⟩ : ∃ z, z = u6 := ⟨_, rfl⟩
  obtain ⟨nn, hnn⟩ : ∃ z : Nat, (z : Int) = (2 + x3) := ⟨((2 + x3)).toNat, by omega⟩
  obtain ⟨tt, htt⟩ : ∃ z : Nat, (z : Int) = (2 + x4) := ⟨((2 + x4)).toNat, by omega⟩
  obtain ⟨i, hi⟩ : ∃ z : Int, z = (1 + x5) := ⟨_, rfl⟩
  obtain ⟨J, hJ⟩ : ∃ z : Nat, (z : Int) = x6 := ⟨(x6).toNat, by omega⟩
  rw [← hnn, ← htt, ← hi, ← hJ]
  have hnn1 : 1 ≤ nn ∧ nn ≤ 7 := by omega
  have htt1 : 2 ≤ tt ∧ tt ≤ 7 := by omega
  have hJ3 : J ≤ 3 := by omega
  have hi8 : i ≤ 8 := by omega
  replace hi : 0 ≤ i ∧ i ≤ 1000 := by omega
  clear hnn htt hJ
  have hgE : g < uE.heap.size := HC.out.lt
  have hWE := HW.out.size
  have HGE := Lib.hid HZ1.out.lt
  have HC0 := Lib.hid (HC.out.mono (n' := 2000) (by omega))
  clear HC
  go_loopg [11, 12] J (fun gk lv kv wr => ∃ l : List DealingD, kv = .int .i64 (gk : Int) ∧ l.length + gk ≤ 3 ∧ Hid (OwnDs wr uE.heap.size lv l) ∧ Hid (Cur U wr g (2000 + 10000000 * (3 - (gk : Int)))) ∧ Hid (Within g (g + 1) uE wr))
  case atStart => exact ⟨[], rfl, by simp; omega, OwnDs.nil _ _, HC0.out.mono (by omega), Within.refl _ _ _⟩
  case round =>
    clear HC0
    obtain ⟨l, rfl, hlg, HO, HC, HWz⟩ := hrel
    have hsr := HWz.out.size
    have hGE := HGE.out
    have hll : (l.length : Int) ≤ 3 := by omega
    by_cases hlt : 0 < gk
    · have HZ1 := Lib.hid (HZ1.out.kept HWz.out (.inr (by omega)))
      replace HW := Lib.hid (HW.out.trans HWz.out)
      have hgp : decide ((0 : Int) < (gk : Int)) = true := decide_eq_true (by omega)
      have hgq : decide (0 < gk) = true := decide_eq_true hlt
      go_upto_region 10 with fail
      clear hgp hgq
      go_cut [13, 14] from 38 to 49 (fun v13 v14 wx => ∃ (bz : Nat) (xa : Option Addr) (xn xc : Nat) (ya : Option Addr) (yn yc : Nat) (lx ly : List Int) (ok : Bool), v13 = .pointer (some ⟨bz, 0, none⟩) ∧ v14 = .bool ok ∧ wr.heap.size ≤ bz ∧ Hid (BoxN wx bz 61 [.slice xa xn xc, .slice ya yn yc]) ∧ Hid (OwnD wx wr.heap.size (.slice xa xn xc) (.slice ya yn yc) lx ly) ∧ Hid (lx.length = xn ∧ ly.length = yn ∧ (xn ≤ 7 ∧ yn ≤ 7) ∧ (ok = true → 1 ≤ yn)) ∧ Hid (Cur U wx g (2000 + 10000000 * (3 - (gk : Int)) + 50000)) ∧ Hid (Within g (g + 1) wr wx))
      case first =>
        have HWr := Lib.hid (Within.refl g (g + 1) wr)
        have ewt : IntKind.i64.wrap ((tt : Int) - 1) = ((tt - 1 : Nat) : Int) := by rw [show (tt : Int) - 1 = ((tt - 1 : Nat) : Int) by omega]; exact IntWalk.i64_in _ (by omega)
        have c0 := HZ1.out.cell (i := 0) rfl
        have c1 := HZ1.out.cell (i := 1) rfl
        have c2 := HZ1.out.cell (i := 2) rfl
        refine wp_region_noPanic ?_
        refine wp_region_V (fun w' => w'.cell? ⟨u1.heap.size, 0, none⟩ = some (.int .i64 P) ∧ w'.cell? ⟨u1.heap.size, 1, none⟩ = some (.int .i64 Q) ∧ w'.cell? ⟨u1.heap.size, 2, none⟩ = some (.int .i64 G)) 17 14 (.rd 0 (.rd 1 (.rd 2 (.rd 3 (.rd 4 (.rd 5 (.rd 7 (.alt 6 (.alt 8 (.rd 9 (.rd 10 (.rd 11 (.alt 12 (.alt 13 .done .nil) .nil)))) (.alt 12 (.alt 8 (.rd 9 (.rd 10 (.rd 11 (.alt 13 .done .nil)))) .nil) .nil)) (.alt 12 (.alt 6 (.alt 8 (.rd 9 (.rd 10 (.rd 11 (.alt 13 .done .nil)))) .nil) .nil) .nil))))))))) [14] (by kernel_rfl) (by kernel_rfl) rfl (fun _ _ _ _ _ h => h) ⟨box_at c0 (Below.refl _ _).drew, box_at c1 (Below.refl _ _).drew, box_at c2 (Below.refl _ _).drew⟩ ?_
        simp only [pickV, pickN, List.getElem?_cons_zero, List.getElem?_cons_succ]
        repeat (refine' wpV_read _ (by kernel_rfl) (fun w' hS' => ?_) ?_; rotate_left; (focus ((try dsimp only at hS'); go_simp; (try with_reducible rfl))); (try simp only [Act.put, List.setIfInBounds_toArray, List.set_cons_zero, List.set_cons_succ]))
        have hdr : Below wr.heap.size wr wr.drew := (Below.refl _ _).drew
        have hszd := hdr.size
        replace HZ1 := Lib.hid (HZ1.out.below hdr)
        replace HC := Lib.hid (HC.out.keep hdr)
        replace HW := Lib.hid (HW.out.trans (Within.of_below hdr))
        have HWr : Hid (Within g (g + 1) wr wr.drew) := Within.of_below hdr
        obtain ⟨uR, huR⟩ : ∃ z, z = wr.drew := ⟨_, rfl⟩
        rw [← huR] at hszd HZ1 HC HW HWr ⊢
        clear hdr huR c0 c1 c2
        have c0 := HZ1.out.cell (i := 0) rfl
        have c1 := HZ1.out.cell (i := 1) rfl
        have c2 := HZ1.out.cell (i := 2) rfl
        refine wpV_or (by kernel_rfl) (fun K hK => ?_) ?_
        · go_simp
          go_at_call 37
          have hC6 := spec_coins U g _ P Q G (tt - 1) _ HC.out (HW.out.belowOf HUC.out (Nat.le_of_eq HUS.out)) (by omega) HGR.out (by omega)
          refine hC6.mono ?_
          clear hC6
          rintro e u6 ⟨⟨v6, l6, rfl, ho6, hl6, he6⟩, hc, hw⟩
          obtain ⟨a6, c6, rfl⟩ := ho6.shapeN hl6
          have hs6 := hw.size
          have HI6 := Lib.hid ho6.ints
          replace HZ1 := Lib.hid (HZ1.out.kept hw (.inr (by omega)))
          replace HC := Lib.hid hc
          replace HW := Lib.hid (HW.out.trans hw)
          replace HWr := Lib.hid (HWr.out.trans hw)
          clear hc hw ho6 c0 c1 c2
          have c0 := HZ1.out.cell (i := 0) rfl
          have c1 := HZ1.out.cell (i := 1) rfl
          have c2 := HZ1.out.cell (i := 2) rfl
          refine hK.out _ _ ⟨c0, c1, c2⟩ (fun _ => ?_)
          clear hK K
          (try simp only [Act.put, List.setIfInBounds_toArray, List.set_cons_zero, List.set_cons_succ])
          refine wpV_or (by kernel_rfl) (fun K hK => ?_) ?_
          · go_simp
            go_at_call 36
            refine (spec_ZeroDealing ⟨P, Q, G⟩ i _ l6 (nn : Int) _ HI6.out hi (by omega)).mono ?_
            rintro e u8 ⟨⟨x8, y8, lx, ly, ok, rfl, hod, hlx, hly, hok⟩, hb⟩
            have hs8 := hb.size
            obtain ⟨xa, xc, rfl⟩ := hod.oa.shape
            obtain ⟨ya, yc, rfl⟩ := hod.ob.shape
            obtain ⟨xn, hxn⟩ : ∃ z, lx.length = z := ⟨_, rfl⟩
            obtain ⟨yn, hyn⟩ : ∃ z, ly.length = z := ⟨_, rfl⟩
            rw [hxn] at hod hlx hok
            rw [hyn] at hod hly hok
            rw [hxn, hyn]
            have HXN := Lib.hid hxn
            have HYN := Lib.hid hyn
            have HOK : Hid (ok = true → 1 ≤ yn) := fun h => (hok h).2
            have HOD := Lib.hid (hod.mono (show wr.heap.size ≤ _ by omega))
            replace HZ1 := Lib.hid (HZ1.out.below hb)
            replace HC := Lib.hid (HC.out.keep hb)
            replace HW := Lib.hid (HW.out.trans (Within.of_below hb))
            replace HWr := Lib.hid (HWr.out.trans (Within.of_below hb))
            clear hb hod hxn hyn hok c0 c1 c2
            have c0 := HZ1.out.cell (i := 0) rfl
            have c1 := HZ1.out.cell (i := 1) rfl
            have c2 := HZ1.out.cell (i := 2) rfl
            refine hK.out _ _ ⟨c0, c1, c2⟩ (fun _ => ?_)
            clear hK K
            (try simp only [Act.put, List.setIfInBounds_toArray, List.set_cons_zero, List.set_cons_succ])
            repeat (refine' wpV_read _ (by kernel_rfl) (fun w' hS' => ?_) ?_; rotate_left; (focus ((try dsimp only at hS'); go_simp; (try with_reducible rfl))); (try simp only [Act.put, List.setIfInBounds_toArray, List.set_cons_zero, List.set_cons_succ]))
            refine wpV_do (by kernel_rfl) (fun K hK => ?_)
            go_simp
            obtain ⟨V12, hV12⟩ : ∃ V, V = u8.alloc (.cells #[.slice none 0 0, .slice none 0 0] 61) := ⟨_, rfl⟩
            have hb : Below u8.heap.size u8 V12 := by rw [hV12]; exact (Below.refl _ _).alloc (Nat.le_refl _) _
            have HBX : Hid (BoxN V12 u8.heap.size 61 [.slice none 0 0, .slice none 0 0]) := by unfold Hid; rw [hV12]; exact BoxN.new u8 _ _
            have hs12 := hb.size
            have hwb : wr.heap.size ≤ u8.heap.size := by omega
            replace HZ1 := Lib.hid (HZ1.out.below hb)
            replace HC := Lib.hid (HC.out.keep hb)
            replace HW := Lib.hid (HW.out.trans (Within.of_below hb))
            replace HWr := Lib.hid (HWr.out.trans (Within.of_below hb))
            replace HOD := Lib.hid (HOD.out.below hb)
            clear hb c0 c1 c2
            have c0 := HZ1.out.cell (i := 0) rfl
            have c1 := HZ1.out.cell (i := 1) rfl
            have c2 := HZ1.out.cell (i := 2) rfl
            refine hK.out _ _ (by rw [← hV12]; exact ⟨c0, c1, c2⟩) (fun _ => ?_)
            rw [← hV12]
            clear hV12
            clear hK K
            (try simp only [Act.put, List.setIfInBounds_toArray, List.set_cons_zero, List.set_cons_succ])
            refine wpV_do (by kernel_rfl) (fun K hK => ?_)
            have r0 := HBX.out.cell (i := 0) rfl
            have r1 := HBX.out.cell (i := 1) rfl
            have fr := fun j => HBX.out.frozen j
            have hbl := HBX.out.lt
            clear c0 c1 c2
            obtain ⟨Y, hY⟩ : ∃ Y, Y = (V12.setCell ⟨u8.heap.size, 0, none⟩ (.slice xa xn xc)).setCell ⟨u8.heap.size, 1, none⟩ (.slice ya yn yc) := ⟨_, rfl⟩
            have hYl : Within (u8.heap.size) (u8.heap.size + 1) V12 Y := by rw [hY]; exact ((Within.refl (u8.heap.size) (u8.heap.size + 1) V12).setCell (b := u8.heap.size) (by omega) (by omega) 0 (.slice xa xn xc)).setCell (b := u8.heap.size) (by omega) (by omega) 1 (.slice ya yn yc)
            have NZ : Hid (BoxN Y (u8.heap.size) 61 [.slice xa xn xc, .slice ya yn yc]) := by unfold Hid; rw [hY]; exact (HBX.out.set 0 _).set 1 _
            have NC := Lib.hid ((HC.out.setNew (b := u8.heap.size) (by omega) 0 (.slice xa xn xc)).setNew (b := u8.heap.size) (by omega) 1 (.slice ya yn yc))
            have NW := Lib.hid ((HWr.out.setNew (b := u8.heap.size) (by omega) 0 (.slice xa xn xc)).setNew (b := u8.heap.size) (by omega) 1 (.slice ya yn yc))
            have NO := Lib.hid (HOD.out.outside HBX.out (by decide) hYl)
            have NG := Lib.hid (HZ1.out.kept hYl (by omega))
            rw [← hY] at NC NW
            go_simp
            refine hK.out _ _ ?_ (fun _ => ?_)
            · rw [← hY]; exact ⟨NG.out.cell (i := 0) rfl, NG.out.cell (i := 1) rfl, NG.out.cell (i := 2) rfl⟩
            rw [← hY]
            clear hK K fr r0 r1 hY hYl
            (try simp only [Act.put, List.setIfInBounds_toArray, List.set_cons_zero, List.set_cons_succ])
            refine wpV_done ?_
            go_wp2_with fail
            refine NoPanic.normal ?_
            go_wp2_with fail
            go_meet
            exact ⟨u8.heap.size, xa, xn, xc, ya, yn, yc, lx, ly, ok, rfl, rfl, hwb, NZ, NO, ⟨HXN.out, HYN.out, ⟨hlx, hly⟩, HOK.out⟩, NC.out.mono (by omega), NW⟩
          refine wpV_do (by kernel_rfl) (fun K hK => ?_)
          go_simp
          obtain ⟨V12, hV12⟩ : ∃ V, V = u6.alloc (.cells #[.slice none 0 0, .slice none 0 0] 61) := ⟨_, rfl⟩
          have hb : Below u6.heap.size u6 V12 := by rw [hV12]; exact (Below.refl _ _).alloc (Nat.le_refl _) _
          have HBX : Hid (BoxN V12 u6.heap.size 61 [.slice none 0 0, .slice none 0 0]) := by unfold Hid; rw [hV12]; exact BoxN.new u6 _ _
          have hs12 := hb.size
          have hwb : wr.heap.size ≤ u6.heap.size := by omega
          replace HZ1 := Lib.hid (HZ1.out.below hb)
          replace HC := Lib.hid (HC.out.keep hb)
          replace HW := Lib.hid (HW.out.trans (Within.of_below hb))
          replace HWr := Lib.hid (HWr.out.trans (Within.of_below hb))
          replace HI6 := Lib.hid (HI6.out.below hb)
          clear hb c0 c1 c2
          have c0 := HZ1.out.cell (i := 0) rfl
          have c1 := HZ1.out.cell (i := 1) rfl
          have c2 := HZ1.out.cell (i := 2) rfl
          refine hK.out _ _ (by rw [← hV12]; exact ⟨c0, c1, c2⟩) (fun _ => ?_)
          rw [← hV12]
          clear hV12
          clear hK K
          (try simp only [Act.put, List.setIfInBounds_toArray, List.set_cons_zero, List.set_cons_succ])
          refine wpV_do (by kernel_rfl) (fun K hK => ?_)
          go_simp
          go_at_call 36
          refine (spec_ZeroDealing ⟨P, Q, G⟩ i _ l6 (nn : Int) _ HI6.out hi (by omega)).mono ?_
          rintro e u8 ⟨⟨x8, y8, lx, ly, ok, rfl, hod, hlx, hly, hok⟩, hb⟩
          have hs8 := hb.size
          obtain ⟨xa, xc, rfl⟩ := hod.oa.shape
          obtain ⟨ya, yc, rfl⟩ := hod.ob.shape
          obtain ⟨xn, hxn⟩ : ∃ z, lx.length = z := ⟨_, rfl⟩
          obtain ⟨yn, hyn⟩ : ∃ z, ly.length = z := ⟨_, rfl⟩
          rw [hxn] at hod hlx hok
          rw [hyn] at hod hly hok
          rw [hxn, hyn]
          have HXN := Lib.hid hxn
          have HYN := Lib.hid hyn
          have HOK : Hid (ok = true → 1 ≤ yn) := fun h => (hok h).2
          have HOD := Lib.hid (hod.mono (show wr.heap.size ≤ _ by omega))
          replace HZ1 := Lib.hid (HZ1.out.below hb)
          replace HBX := Lib.hid (HBX.out.below hb)
          replace HC := Lib.hid (HC.out.keep hb)
          replace HW := Lib.hid (HW.out.trans (Within.of_below hb))
          replace HWr := Lib.hid (HWr.out.trans (Within.of_below hb))
          clear hb hod hxn hyn hok c0 c1 c2
          have c0 := HZ1.out.cell (i := 0) rfl
          have c1 := HZ1.out.cell (i := 1) rfl
          have c2 := HZ1.out.cell (i := 2) rfl
          refine hK.out _ _ ⟨c0, c1, c2⟩ (fun _ => ?_)
          clear hK K
          (try simp only [Act.put, List.setIfInBounds_toArray, List.set_cons_zero, List.set_cons_succ])
          repeat (refine' wpV_read _ (by kernel_rfl) (fun w' hS' => ?_) ?_; rotate_left; (focus ((try dsimp only at hS'); go_simp; (try with_reducible rfl))); (try simp only [Act.put, List.setIfInBounds_toArray, List.set_cons_zero, List.set_cons_succ]))
          refine wpV_do (by kernel_rfl) (fun K hK => ?_)
          have r0 := HBX.out.cell (i := 0) rfl
          have r1 := HBX.out.cell (i := 1) rfl
          have fr := fun j => HBX.out.frozen j
          have hbl := HBX.out.lt
          clear c0 c1 c2
          obtain ⟨Y, hY⟩ : ∃ Y, Y = (u8.setCell ⟨u6.heap.size, 0, none⟩ (.slice xa xn xc)).setCell ⟨u6.heap.size, 1, none⟩ (.slice ya yn yc) := ⟨_, rfl⟩
          have hYl : Within (u6.heap.size) (u6.heap.size + 1) u8 Y := by rw [hY]; exact ((Within.refl (u6.heap.size) (u6.heap.size + 1) u8).setCell (b := u6.heap.size) (by omega) (by omega) 0 (.slice xa xn xc)).setCell (b := u6.heap.size) (by omega) (by omega) 1 (.slice ya yn yc)
          have NZ : Hid (BoxN Y (u6.heap.size) 61 [.slice xa xn xc, .slice ya yn yc]) := by unfold Hid; rw [hY]; exact (HBX.out.set 0 _).set 1 _
          have NC := Lib.hid ((HC.out.setNew (b := u6.heap.size) (by omega) 0 (.slice xa xn xc)).setNew (b := u6.heap.size) (by omega) 1 (.slice ya yn yc))
          have NW := Lib.hid ((HWr.out.setNew (b := u6.heap.size) (by omega) 0 (.slice xa xn xc)).setNew (b := u6.heap.size) (by omega) 1 (.slice ya yn yc))
          have NO := Lib.hid (HOD.out.outside HBX.out (by decide) hYl)
          have NG := Lib.hid (HZ1.out.kept hYl (by omega))
          rw [← hY] at NC NW
          go_simp
          refine hK.out _ _ ?_ (fun _ => ?_)
          · rw [← hY]; exact ⟨NG.out.cell (i := 0) rfl, NG.out.cell (i := 1) rfl, NG.out.cell (i := 2) rfl⟩
          rw [← hY]
          clear hK K fr r0 r1 hY hYl
          (try simp only [Act.put, List.setIfInBounds_toArray, List.set_cons_zero, List.set_cons_succ])
          refine wpV_done ?_
          go_wp2_with fail
          refine NoPanic.normal ?_
          go_wp2_with fail
          go_meet
          exact ⟨u6.heap.size, xa, xn, xc, ya, yn, yc, lx, ly, ok, rfl, rfl, hwb, NZ, NO, ⟨HXN.out, HYN.out, ⟨hlx, hly⟩, HOK.out⟩, NC.out.mono (by omega), NW⟩
        refine wpV_do (by kernel_rfl) (fun K hK => ?_)
        go_simp
        obtain ⟨V12, hV12⟩ : ∃ V, V = uR.alloc (.cells #[.slice none 0 0, .slice none 0 0] 61) := ⟨_, rfl⟩
        have hb : Below uR.heap.size uR V12 := by rw [hV12]; exact (Below.refl _ _).alloc (Nat.le_refl _) _
        have HBX : Hid (BoxN V12 uR.heap.size 61 [.slice none 0 0, .slice none 0 0]) := by unfold Hid; rw [hV12]; exact BoxN.new uR _ _
        have hs12 := hb.size
        have hwb : wr.heap.size ≤ uR.heap.size := by omega
        replace HZ1 := Lib.hid (HZ1.out.below hb)
        replace HC := Lib.hid (HC.out.keep hb)
        replace HW := Lib.hid (HW.out.trans (Within.of_below hb))
        replace HWr := Lib.hid (HWr.out.trans (Within.of_below hb))
        clear hb c0 c1 c2
        have c0 := HZ1.out.cell (i := 0) rfl
        have c1 := HZ1.out.cell (i := 1) rfl
        have c2 := HZ1.out.cell (i := 2) rfl
        refine hK.out _ _ (by rw [← hV12]; exact ⟨c0, c1, c2⟩) (fun _ => ?_)
        rw [← hV12]
        clear hV12
        clear hK K
        (try simp only [Act.put, List.setIfInBounds_toArray, List.set_cons_zero, List.set_cons_succ])
        refine wpV_do (by kernel_rfl) (fun K hK => ?_)
        go_simp
        go_at_call 37
        have hC6 := spec_coins U g _ P Q G (tt - 1) _ HC.out (HW.out.belowOf HUC.out (Nat.le_of_eq HUS.out)) (by omega) HGR.out (by omega)
        refine hC6.mono ?_
        clear hC6
        rintro e u6 ⟨⟨v6, l6, rfl, ho6, hl6, he6⟩, hc, hw⟩
        obtain ⟨a6, c6, rfl⟩ := ho6.shapeN hl6
        have hs6 := hw.size
        have HI6 := Lib.hid ho6.ints
        replace HZ1 := Lib.hid (HZ1.out.kept hw (.inr (by omega)))
        replace HBX := Lib.hid (HBX.out.kept hw (.inr (by omega)))
        replace HC := Lib.hid hc
        replace HW := Lib.hid (HW.out.trans hw)
        replace HWr := Lib.hid (HWr.out.trans hw)
        clear hc hw ho6 c0 c1 c2
        have c0 := HZ1.out.cell (i := 0) rfl
        have c1 := HZ1.out.cell (i := 1) rfl
        have c2 := HZ1.out.cell (i := 2) rfl
        refine hK.out _ _ ⟨c0, c1, c2⟩ (fun _ => ?_)
        clear hK K
        (try simp only [Act.put, List.setIfInBounds_toArray, List.set_cons_zero, List.set_cons_succ])
        refine wpV_do (by kernel_rfl) (fun K hK => ?_)
        go_simp
        go_at_call 36
        refine (spec_ZeroDealing ⟨P, Q, G⟩ i _ l6 (nn : Int) _ HI6.out hi (by omega)).mono ?_
        rintro e u8 ⟨⟨x8, y8, lx, ly, ok, rfl, hod, hlx, hly, hok⟩, hb⟩
        have hs8 := hb.size
        obtain ⟨xa, xc, rfl⟩ := hod.oa.shape
        obtain ⟨ya, yc, rfl⟩ := hod.ob.shape
        obtain ⟨xn, hxn⟩ : ∃ z, lx.length = z := ⟨_, rfl⟩
        obtain ⟨yn, hyn⟩ : ∃ z, ly.length = z := ⟨_, rfl⟩
        rw [hxn] at hod hlx hok
        rw [hyn] at hod hly hok
        rw [hxn, hyn]
        have HXN := Lib.hid hxn
        have HYN := Lib.hid hyn
        have HOK : Hid (ok = true → 1 ≤ yn) := fun h => (hok h).2
        have HOD := Lib.hid (hod.mono (show wr.heap.size ≤ _ by omega))
        replace HZ1 := Lib.hid (HZ1.out.below hb)
        replace HBX := Lib.hid (HBX.out.below hb)
        replace HC := Lib.hid (HC.out.keep hb)
        replace HW := Lib.hid (HW.out.trans (Within.of_below hb))
        replace HWr := Lib.hid (HWr.out.trans (Within.of_below hb))
        clear hb hod hxn hyn hok c0 c1 c2
        have c0 := HZ1.out.cell (i := 0) rfl
        have c1 := HZ1.out.cell (i := 1) rfl
        have c2 := HZ1.out.cell (i := 2) rfl
        refine hK.out _ _ ⟨c0, c1, c2⟩ (fun _ => ?_)
        clear hK K
        (try simp only [Act.put, List.setIfInBounds_toArray, List.set_cons_zero, List.set_cons_succ])
        repeat (refine' wpV_read _ (by kernel_rfl) (fun w' hS' => ?_) ?_; rotate_left; (focus ((try dsimp only at hS'); go_simp; (try with_reducible rfl))); (try simp only [Act.put, List.setIfInBounds_toArray, List.set_cons_zero, List.set_cons_succ]))
        refine wpV_do (by kernel_rfl) (fun K hK => ?_)
        have r0 := HBX.out.cell (i := 0) rfl
        have r1 := HBX.out.cell (i := 1) rfl
        have fr := fun j => HBX.out.frozen j
        have hbl := HBX.out.lt
        clear c0 c1 c2
        obtain ⟨Y, hY⟩ : ∃ Y, Y = (u8.setCell ⟨uR.heap.size, 0, none⟩ (.slice xa xn xc)).setCell ⟨uR.heap.size, 1, none⟩ (.slice ya yn yc) := ⟨_, rfl⟩
        have hYl : Within (uR.heap.size) (uR.heap.size + 1) u8 Y := by rw [hY]; exact ((Within.refl (uR.heap.size) (uR.heap.size + 1) u8).setCell (b := uR.heap.size) (by omega) (by omega) 0 (.slice xa xn xc)).setCell (b := uR.heap.size) (by omega) (by omega) 1 (.slice ya yn yc)
        have NZ : Hid (BoxN Y (uR.heap.size) 61 [.slice xa xn xc, .slice ya yn yc]) := by unfold Hid; rw [hY]; exact (HBX.out.set 0 _).set 1 _
        have NC := Lib.hid ((HC.out.setNew (b := uR.heap.size) (by omega) 0 (.slice xa xn xc)).setNew (b := uR.heap.size) (by omega) 1 (.slice ya yn yc))
        have NW := Lib.hid ((HWr.out.setNew (b := uR.heap.size) (by omega) 0 (.slice xa xn xc)).setNew (b := uR.heap.size) (by omega) 1 (.slice ya yn yc))
        have NO := Lib.hid (HOD.out.outside HBX.out (by decide) hYl)
        have NG := Lib.hid (HZ1.out.kept hYl (by omega))
        rw [← hY] at NC NW
        go_simp
        refine hK.out _ _ ?_ (fun _ => ?_)
        · rw [← hY]; exact ⟨NG.out.cell (i := 0) rfl, NG.out.cell (i := 1) rfl, NG.out.cell (i := 2) rfl⟩
        rw [← hY]
        clear hK K fr r0 r1 hY hYl
        (try simp only [Act.put, List.setIfInBounds_toArray, List.set_cons_zero, List.set_cons_succ])
        refine wpV_done ?_
        go_wp2_with fail
        refine NoPanic.normal ?_
        go_wp2_with fail
        go_meet
        exact ⟨uR.heap.size, xa, xn, xc, ya, yn, yc, lx, ly, ok, rfl, rfl, hwb, NZ, NO, ⟨HXN.out, HYN.out, ⟨hlx, hly⟩, HOK.out⟩, NC.out.mono (by omega), NW⟩

      case rest =>
        obtain ⟨bz, xa, xn, xc, ya, yn, yc, lx, ly, ok, rfl, rfl, hwb, HBX, HOD, HF, HC, HWr⟩ := hcut
        obtain ⟨hxn, hyn, ⟨hx7, hy7⟩, hok⟩ := HF.out
        have HXN := Lib.hid hxn
        have HYN := Lib.hid hyn
        clear hxn hyn HF
        have hsc := HWr.out.size
        cases ok with
        | false =>
          go_wp2_with fail
          go_roundg (gk - 1)
          case measure => omega
          case rel => exact ⟨l, by first | rfl | (congr 1; omega), by omega, Lib.hid (HO.out.within HWr.out (by omega)), Lib.hid ((HC.out.mono (by omega)) : Cur U wc g (2000 + 10000000 * (3 - ((gk - 1 : Nat) : Int)))), Lib.hid (HWz.out.trans HWr.out)⟩
        | true =>
          have HO9 := Lib.hid (HO.out.within HWr.out (by omega))
          have HOD9 := Lib.hid (HOD.out.mono (show uE.heap.size ≤ wr.heap.size by omega))
          have z0 := HBX.out.cell (i := 0) rfl
          have z1 := HBX.out.cell (i := 1) rfl
          have hbl := HBX.out.lt
          have hszw := HWr.out.size
          go_wp2_with (at_builtin; refine wpList_append_Ds rfl _ _ rfl rfl rfl (b := wc.heap.size) (d := ⟨lx, ly⟩) (HO9.out.below ((Below.refl _ _).alloc (Nat.le_refl _) _)) (HOD9.out.oa.below ((Below.refl _ _).alloc (Nat.le_refl _) _)) (HOD9.out.ob.below ((Below.refl _ _).alloc (Nat.le_refl _) _)) (BoxN.new wc _ _) (by simp; omega) (by omega) ?_; intro v9 w9 hown9 hb9)
          have hb9' : Below uE.heap.size wc w9 := ((Below.refl _ _).alloc (by omega) _).trans hb9
          clear hb9
          have hdl : l.length + 1 + (gk - 1) ≤ 3 := by omega
          go_roundg (gk - 1)
          case measure => omega
          case rel => exact ⟨l ++ [⟨lx, ly⟩], by first | rfl | (congr 1; omega), by rw [List.length_append]; exact hdl, Lib.hid hown9, Lib.hid ((HC.out.belowB hb9' (by omega)).mono (by omega)), Lib.hid ((HWz.out.trans HWr.out).belowStep hb9')⟩

    · obtain rfl : gk = 0 := by omega
      replace HX0 := Lib.hid (HX0.out.kept HWz.out (.inl (by omega)))
      replace HX1 := Lib.hid (HX1.out.kept HWz.out (.inl (by omega)))
      replace HZ1 := Lib.hid (HZ1.out.kept HWz.out (.inr (by omega)))
      obtain ⟨ao, no, co, rfl⟩ := HO.out.rd.shape
      have HE7 : Hid (l.length = no) := HO.out.rd.len
      have hnl7 : no ≤ 3 := by have := HE7.out; omega
      replace HW := Lib.hid (HW.out.trans HWz.out)
      replace HC := Lib.hid (HC.out.mono (n' := 100000000) (by omega))
      have HL7 := HO
      clear HWz HO hlt hlg hll
      have z_0_0 := HX0.out.cell (i := 0) rfl
      have z_0_1 := HX0.out.cell (i := 1) rfl
      have z_0_2 := HX0.out.cell (i := 2) rfl
      have z_1_0 := HX1.out.cell (i := 0) rfl
      have z_1_1 := HX1.out.cell (i := 1) rfl
      have z_2_0 := HZ1.out.cell (i := 0) rfl
      have z_2_1 := HZ1.out.cell (i := 1) rfl
      have z_2_2 := HZ1.out.cell (i := 2) rfl
      try (go_wp2_with fail)
      clear z_0_0 z_0_1 z_0_2 z_1_0 z_1_1 z_2_0 z_2_1 z_2_2
      refine (spec_one U g _ 6 _ HC.out (HW.out.belowOf HUC.out (Nat.le_of_eq HUS.out)) (by omega) ).mono ?_
      rintro e u8 ⟨⟨b8, rfl⟩, hc, hw⟩
      have hsz8 := hw.size
      replace HX0 := Lib.hid (HX0.out.kept hw (.inl (by omega)))
      replace HX1 := Lib.hid (HX1.out.kept hw (.inl (by omega)))
      replace HZ1 := Lib.hid (HZ1.out.kept hw (.inr (by omega)))
      replace HL7 := Lib.hid (HL7.out.within hw (by omega))
      replace HW := Lib.hid (HW.out.trans hw)
      replace HC := Lib.hid hc
      clear hc hw
      cases b8 with
      | false =>
        have z_0_0 := HX0.out.cell (i := 0) rfl
        have z_0_1 := HX0.out.cell (i := 1) rfl
        have z_0_2 := HX0.out.cell (i := 2) rfl
        have z_1_0 := HX1.out.cell (i := 0) rfl
        have z_1_1 := HX1.out.cell (i := 1) rfl
        have z_2_0 := HZ1.out.cell (i := 0) rfl
        have z_2_1 := HZ1.out.cell (i := 1) rfl
        have z_2_2 := HZ1.out.cell (i := 2) rfl
        try (go_wp2_with fail)
        clear z_0_0 z_0_1 z_0_2 z_1_0 z_1_1 z_2_0 z_2_1 z_2_2
        refine (spec_one U g _ 20 _ HC.out (HW.out.belowOf HUC.out (Nat.le_of_eq HUS.out)) (by omega) ).mono ?_
        rintro e u9 ⟨⟨b9, rfl⟩, hc, hw⟩
        have hsz9 := hw.size
        replace HX0 := Lib.hid (HX0.out.kept hw (.inl (by omega)))
        replace HX1 := Lib.hid (HX1.out.kept hw (.inl (by omega)))
        replace HZ1 := Lib.hid (HZ1.out.kept hw (.inr (by omega)))
        replace HL7 := Lib.hid (HL7.out.within hw (by omega))
        replace HW := Lib.hid (HW.out.trans hw)
        replace HC := Lib.hid hc
        clear hc hw
        cases b9 with
        | false =>
          have z_0_0 := HX0.out.cell (i := 0) rfl
          have z_0_1 := HX0.out.cell (i := 1) rfl
          have z_0_2 := HX0.out.cell (i := 2) rfl
          have z_1_0 := HX1.out.cell (i := 0) rfl
          have z_1_1 := HX1.out.cell (i := 1) rfl
          have z_2_0 := HZ1.out.cell (i := 0) rfl
          have z_2_1 := HZ1.out.cell (i := 1) rfl
          have z_2_2 := HZ1.out.cell (i := 2) rfl
          try (go_wp2_with fail)
          clear z_0_0
          clear z_0_1
          clear z_0_2
          clear z_1_0
          clear z_1_1
          refine wp_region_noPanic ?_
          refine wp_region_V (fun w' => w'.cell? ⟨u1.heap.size, 0, none⟩ = some (.int .i64 P) ∧ w'.cell? ⟨u1.heap.size, 1, none⟩ = some (.int .i64 Q) ∧ w'.cell? ⟨u1.heap.size, 2, none⟩ = some (.int .i64 G)) 14 11 (.rd 0 (.rd 1 (.rd 2 (.rd 3 (.rd 4 (.rd 6 (.rd 7 (.alt 5 (.alt 8 (.alt 9 (.alt 10 .done .nil) .nil) .nil) .nil)))))))) [11] (by kernel_rfl) (by kernel_rfl) rfl (fun _ _ _ _ _ h => h) ⟨box_at z_2_0 (Below.refl _ _).drew, box_at z_2_1 (Below.refl _ _).drew, box_at z_2_2 (Below.refl _ _).drew⟩ ?_
          simp only [pickV, pickN, List.getElem?_cons_zero, List.getElem?_cons_succ]
          repeat (refine' wpV_read _ (by kernel_rfl) (fun w' hS' => ?_) ?_; rotate_left; (focus ((try dsimp only at hS'); go_simp; (try with_reducible rfl))); (try simp only [Act.put, List.setIfInBounds_toArray, List.set_cons_zero, List.set_cons_succ]))
          have hdr : Below u9.heap.size u9 u9.drew := (Below.refl _ _).drew
          have hszd := hdr.size
          replace HX0 := Lib.hid (HX0.out.below hdr)
          replace HX1 := Lib.hid (HX1.out.below hdr)
          replace HZ1 := Lib.hid (HZ1.out.below hdr)
          replace HL7 := Lib.hid (HL7.out.below hdr)
          replace HW := Lib.hid (HW.out.trans (Within.of_below hdr))
          replace HC := Lib.hid (HC.out.keep hdr)
          clear hdr
          refine wpV_do (by kernel_rfl) (fun K hK => ?_)
          -- 5: call
          go_simp
          go_at_call 23
          refine (spec_sharedKeyI U g _ P Q G (nn : Int) (tt : Int) _ HC.out (HW.out.belowOf HUC.out (Nat.le_of_eq HUS.out)) (by omega) HGR.out (by omega) (by omega)).mono ?_
          rintro e ut1 ⟨⟨vt1a, vt1b, lt1a, lt1b, rfl, ⟨hst1a, hlt1a⟩, ⟨hst1b, hgt1b, hlt1b⟩⟩, hc, hw⟩
          have HLt1a := Lib.hid hst1a
          obtain ⟨at1a, nt1a, ct1a, rfl⟩ := hst1a.here.shape
          have hnt1a : nt1a ≤ 7 := by have h1 := hst1a.here.len; omega
          have HEt1a := Lib.hid hst1a.here.len
          clear hst1a
          have HLt1b := Lib.hid hst1b
          obtain ⟨at1b, nt1b, ct1b, rfl⟩ := hst1b.here.shape
          have hnt1b : nt1b ≤ 7 := by have h1 := hst1b.here.len; omega
          have HEt1b := Lib.hid hst1b.here.len
          clear hst1b
          replace HLt1a : Hid (SinceT _ ut1.heap.size ut1 _) := SinceT.of HLt1a.out (Below.refl _ _) ⟨Nat.le_refl _, Nat.le_refl _⟩
          replace HLt1b : Hid (SinceT _ ut1.heap.size ut1 _) := SinceT.of HLt1b.out (Below.refl _ _) ⟨Nat.le_refl _, Nat.le_refl _⟩
          have hgt1n : 1 ≤ nt1b := by have := HEt1b.out; omega
          have hszt1 := hw.size
          replace HX0 := Lib.hid (HX0.out.kept hw (.inl (by omega)))
          replace HX1 := Lib.hid (HX1.out.kept hw (.inl (by omega)))
          replace HZ1 := Lib.hid (HZ1.out.kept hw (.inr (by omega)))
          replace HL7 := Lib.hid (HL7.out.within hw (by omega))
          replace HW := Lib.hid (HW.out.trans hw)
          replace HC := Lib.hid hc
          clear hc hw
          clear z_2_0 z_2_1 z_2_2
          have z_2_0 := HZ1.out.cell (i := 0) rfl
          have z_2_1 := HZ1.out.cell (i := 1) rfl
          have z_2_2 := HZ1.out.cell (i := 2) rfl
          refine hK.out _ _ ⟨z_2_0, z_2_1, z_2_2⟩ (fun _ => ?_)
          clear hK K
          (try simp only [Act.put, List.setIfInBounds_toArray, List.set_cons_zero, List.set_cons_succ])
          refine wpV_do (by kernel_rfl) (fun K hK => ?_)
          -- 8: store
          have r0 := HX0.out.cell (i := 0) rfl
          have r1 := HX0.out.cell (i := 1) rfl
          have r2 := HX0.out.cell (i := 2) rfl
          have fr := fun j => HX0.out.frozen j
          obtain ⟨Y2, hY⟩ : ∃ Y, Y = ((ut1.setCell ⟨w.heap.size, 0, none⟩ (.int .i64 P)).setCell ⟨w.heap.size, 1, none⟩ (.int .i64 Q)).setCell ⟨w.heap.size, 2, none⟩ (.int .i64 G) := ⟨_, rfl⟩
          have hYl : Within (w.heap.size) (w.heap.size + 1) ut1 Y2 := by rw [hY]; exact ((((Within.refl (w.heap.size) (w.heap.size + 1) ut1).setCell (b := w.heap.size) (by omega) (by omega) 0 (.int .i64 P)).setCell (b := w.heap.size) (by omega) (by omega) 1 (.int .i64 Q)).setCell (b := w.heap.size) (by omega) (by omega) 2 (.int .i64 G))
          have HYW : Hid (Within w.heap.size (w.heap.size + 2) ut1 Y2) := hYl.mono (by omega) (by omega)
          have HYB : Hid (Below w.heap.size w Y2) := hYl.belowU (HW.out.belowOf HBW.out (by omega)) (by omega)
          have HCS : Hid (∀ w', Within w.heap.size (w.heap.size + 2) ut1 w' → w'.cell? ⟨u1.heap.size, 0, none⟩ = some (.int .i64 P) ∧ w'.cell? ⟨u1.heap.size, 1, none⟩ = some (.int .i64 Q) ∧ w'.cell? ⟨u1.heap.size, 2, none⟩ = some (.int .i64 G)) := fun w' h => ⟨within_at h z_2_0 (by omega), within_at h z_2_1 (by omega), within_at h z_2_2 (by omega)⟩
          go_simp
          refine hK.out _ _ ?_ (fun _ => ?_)
          · rw [← hY]; exact HCS.out _ HYW.out
          rw [← hY]
          clear hK K fr r0 r1 r2
          replace HX0 : Hid (BoxN Y2 w.heap.size 24 [.int .i64 P, .int .i64 Q, .int .i64 G]) := by unfold Hid; rw [hY]; exact (((HX0.out.set 0 (.int .i64 P)).set 1 (.int .i64 Q)).set 2 (.int .i64 G))
          replace HX1 := Lib.hid (HX1.out.kept hYl (by omega))
          clear hY hYl
          (try simp only [Act.put, List.setIfInBounds_toArray, List.set_cons_zero, List.set_cons_succ])
          clear z_2_0 z_2_1 z_2_2
          obtain ⟨z_2_0, z_2_1, z_2_2⟩ := HCS.out _ HYW.out
          refine wpV_do (by kernel_rfl) (fun K hK => ?_)
          -- 9: store
          have r0 := HX1.out.cell (i := 0) rfl
          have r1 := HX1.out.cell (i := 1) rfl
          have fr := fun j => HX1.out.frozen j
          obtain ⟨Y3, hY⟩ : ∃ Y, Y = (Y2.setCell ⟨w.heap.size + 1, 0, none⟩ (.slice at1a nt1a ct1a)).setCell ⟨w.heap.size + 1, 1, none⟩ (.slice at1b nt1b ct1b) := ⟨_, rfl⟩
          have hYl : Within (w.heap.size + 1) (w.heap.size + 1 + 1) Y2 Y3 := by rw [hY]; exact (((Within.refl (w.heap.size + 1) (w.heap.size + 1 + 1) Y2).setCell (b := w.heap.size + 1) (by omega) (by omega) 0 (.slice at1a nt1a ct1a)).setCell (b := w.heap.size + 1) (by omega) (by omega) 1 (.slice at1b nt1b ct1b))
          replace HYW := Lib.hid (HYW.out.trans (hYl.mono (by omega) (by omega)))
          replace HYB := Lib.hid (hYl.belowU HYB.out (by omega))
          go_simp
          refine hK.out _ _ ?_ (fun _ => ?_)
          · rw [← hY]; exact HCS.out _ HYW.out
          rw [← hY]
          clear hK K fr r0 r1
          replace HX1 : Hid (BoxN Y3 (w.heap.size + 1) 27 [.slice at1a nt1a ct1a, .slice at1b nt1b ct1b]) := by unfold Hid; rw [hY]; exact ((HX1.out.set 0 (.slice at1a nt1a ct1a)).set 1 (.slice at1b nt1b ct1b))
          replace HX0 := Lib.hid (HX0.out.kept hYl (by omega))
          clear hY hYl
          (try simp only [Act.put, List.setIfInBounds_toArray, List.set_cons_zero, List.set_cons_succ])
          clear z_2_0 z_2_1 z_2_2
          obtain ⟨z_2_0, z_2_1, z_2_2⟩ := HCS.out _ HYW.out
          refine wpV_do (by kernel_rfl) (fun K hK => ?_)
          -- 10: load
          go_simp
          refine hK.out _ _ ⟨z_2_0, z_2_1, z_2_2⟩ (fun _ => ?_)
          clear hK K
          (try simp only [Act.put, List.setIfInBounds_toArray, List.set_cons_zero, List.set_cons_succ])
          refine wpV_done ?_
          go_wp2_with fail
          refine NoPanic.normal ?_
          clear z_2_0 z_2_1 z_2_2
          have t_HX0_0 := HX0.out.cell (i := 0) rfl
          have t_HX0_1 := HX0.out.cell (i := 1) rfl
          have t_HX0_2 := HX0.out.cell (i := 2) rfl
          have t_HX1_0 := HX1.out.cell (i := 0) rfl
          have t_HX1_1 := HX1.out.cell (i := 1) rfl
          try (go_wp2_with fail)
          refine bodyPost_ret (v := .tuple #[.agg #[.int .i64 P, .int .i64 Q, .int .i64 G], .agg #[.slice at1a nt1a ct1a, .slice at1b nt1b ct1b], .int .i64 i, .slice ao no co]) (by simp [results, Tryz.results8, go_sem, t_HX0_0, t_HX0_1, t_HX0_2, t_HX1_0, t_HX1_1]) rfl ⟨⟨_, _, _, _, _, _, _, _, _, _, rfl, HGR.out, ⟨(HLt1a.out.within HYW.out (by omega)).here, by have := HEt1a.out; omega⟩, ⟨(HLt1b.out.within HYW.out (by omega)).here, by have := HEt1b.out; omega⟩, ⟨by omega, by omega⟩, ⟨(HL7.out.within HYW.out (by omega)).here, by have := HE7.out; omega⟩⟩, HYB.out⟩
        | true =>
          have z_0_0 := HX0.out.cell (i := 0) rfl
          have z_0_1 := HX0.out.cell (i := 1) rfl
          have z_0_2 := HX0.out.cell (i := 2) rfl
          have z_1_0 := HX1.out.cell (i := 0) rfl
          have z_1_1 := HX1.out.cell (i := 1) rfl
          have z_2_0 := HZ1.out.cell (i := 0) rfl
          have z_2_1 := HZ1.out.cell (i := 1) rfl
          have z_2_2 := HZ1.out.cell (i := 2) rfl
          have lt_HX0 := HX0.out.lt
          have lt_HX1 := HX1.out.lt
          have lt_HZ1 := HZ1.out.lt
          obtain ⟨V10, hV⟩ : ∃ V, V = u9.alloc (.cells #[.int .i64 0, .int .i64 8] 3) := ⟨_, rfl⟩
          have hbV : Below u9.heap.size u9 V10 := by rw [hV]; (repeat (first | exact Below.refl _ _ | assumption | refine Below.drew ?_ | refine Below.alloc ?_ (by first | (simp; done) | (simp; omega)) _ | refine Below.setCell ?_ (by first | (simp; done) | (simp; omega)) _))
          have HO6 : Hid (OwnI V10 u9.heap.size (.slice (some ⟨u9.heap.size, 0, none⟩) 2 2) [0, 8]) := by unfold Hid; rw [hV]; have h := (OwnI.lit (B := u9.heap.size) u9 (by simp) (l := [0, 8]) (AllI64.cons ⟨by decide, by decide⟩ (AllI64.cons ⟨by decide, by decide⟩ AllI64.nil)) rfl (by simp [maxLen]) 2 rfl); simpa using h
          have HZ7 : Hid (BoxN V10 u9.heap.size 3 [.int .i64 0, .int .i64 8]) := by unfold Hid; rw [hV]; have h := (BoxN.new u9 [.int .i64 0, .int .i64 8] 3); simpa using h
          have hgc : g < u9.heap.size := HC.out.lt
          go_wp2_with fail
          rw [← hV]
          have hsV10 : V10.heap.size = u9.heap.size + 1 := by rw [hV]; simp
          clear hV hgc
          replace HX0 := Lib.hid (HX0.out.below hbV)
          replace HX1 := Lib.hid (HX1.out.below hbV)
          replace HZ1 := Lib.hid (HZ1.out.below hbV)
          replace HL7 := Lib.hid (HL7.out.below hbV)
          replace HW := Lib.hid (HW.out.trans (Within.of_below hbV))
          replace HC := Lib.hid (HC.out.keep hbV)
          clear hbV
          clear z_0_0 z_0_1 z_0_2 z_1_0 z_1_1 z_2_0 z_2_1 z_2_2
          clear lt_HX0
          clear lt_HX1
          clear lt_HZ1
          refine (spec_among U g _ _ [0, 8] _ HC.out (HW.out.belowOf HUC.out (Nat.le_of_eq HUS.out)) (by omega) (Apart.of_ownI HO6.out (by omega)) (by decide)).mono ?_
          rintro e u11 ⟨⟨x11, rfl, hm11⟩, hc, hw⟩
          have x11l : -10 ≤ x11 := by simp at hm11; omega
          have x11u : x11 ≤ 8 := by simp at hm11; omega
          clear hm11
          have hsz11 := hw.size
          replace HX0 := Lib.hid (HX0.out.kept hw (.inl (by omega)))
          replace HX1 := Lib.hid (HX1.out.kept hw (.inl (by omega)))
          replace HZ1 := Lib.hid (HZ1.out.kept hw (.inr (by omega)))
          replace HZ7 := Lib.hid (HZ7.out.kept hw (.inr (by omega)))
          replace HL7 := Lib.hid (HL7.out.within hw (by omega))
          replace HW := Lib.hid (HW.out.trans hw)
          replace HC := Lib.hid hc
          clear hc hw
          have z_0_0 := HX0.out.cell (i := 0) rfl
          have z_0_1 := HX0.out.cell (i := 1) rfl
          have z_0_2 := HX0.out.cell (i := 2) rfl
          have z_1_0 := HX1.out.cell (i := 0) rfl
          have z_1_1 := HX1.out.cell (i := 1) rfl
          have z_2_0 := HZ1.out.cell (i := 0) rfl
          have z_2_1 := HZ1.out.cell (i := 1) rfl
          have z_2_2 := HZ1.out.cell (i := 2) rfl
          have z_3_0 := HZ7.out.cell (i := 0) rfl
          have z_3_1 := HZ7.out.cell (i := 1) rfl
          try (go_wp2_with fail)
          clear z_0_0
          clear z_0_1
          clear z_0_2
          clear z_1_0
          clear z_1_1
          refine wp_region_noPanic ?_
          refine wp_region_V (fun w' => w'.cell? ⟨u1.heap.size, 0, none⟩ = some (.int .i64 P) ∧ w'.cell? ⟨u1.heap.size, 1, none⟩ = some (.int .i64 Q) ∧ w'.cell? ⟨u1.heap.size, 2, none⟩ = some (.int .i64 G) ∧ w'.cell? ⟨u9.heap.size, 0, none⟩ = some (.int .i64 0) ∧ w'.cell? ⟨u9.heap.size, 1, none⟩ = some (.int .i64 8)) 14 11 (.rd 0 (.rd 1 (.rd 2 (.rd 3 (.rd 4 (.rd 6 (.rd 7 (.alt 5 (.alt 8 (.alt 9 (.alt 10 .done .nil) .nil) .nil) .nil)))))))) [11] (by kernel_rfl) (by kernel_rfl) rfl (fun _ _ _ _ _ h => h) ⟨box_at z_2_0 (Below.refl _ _).drew, box_at z_2_1 (Below.refl _ _).drew, box_at z_2_2 (Below.refl _ _).drew, box_at z_3_0 (Below.refl _ _).drew, box_at z_3_1 (Below.refl _ _).drew⟩ ?_
          simp only [pickV, pickN, List.getElem?_cons_zero, List.getElem?_cons_succ]
          repeat (refine' wpV_read _ (by kernel_rfl) (fun w' hS' => ?_) ?_; rotate_left; (focus ((try dsimp only at hS'); go_simp; (try with_reducible rfl))); (try simp only [Act.put, List.setIfInBounds_toArray, List.set_cons_zero, List.set_cons_succ]))
          have hdr : Below u11.heap.size u11 u11.drew := (Below.refl _ _).drew
          have hszd := hdr.size
          replace HX0 := Lib.hid (HX0.out.below hdr)
          replace HX1 := Lib.hid (HX1.out.below hdr)
          replace HZ1 := Lib.hid (HZ1.out.below hdr)
          replace HZ7 := Lib.hid (HZ7.out.below hdr)
          replace HL7 := Lib.hid (HL7.out.below hdr)
          replace HW := Lib.hid (HW.out.trans (Within.of_below hdr))
          replace HC := Lib.hid (HC.out.keep hdr)
          clear hdr
          refine wpV_do (by kernel_rfl) (fun K hK => ?_)
          -- 5: call
          go_simp
          go_at_call 23
          refine (spec_sharedKeyI U g _ P Q G (nn : Int) (tt : Int) _ HC.out (HW.out.belowOf HUC.out (Nat.le_of_eq HUS.out)) (by omega) HGR.out (by omega) (by omega)).mono ?_
          rintro e ut1 ⟨⟨vt1a, vt1b, lt1a, lt1b, rfl, ⟨hst1a, hlt1a⟩, ⟨hst1b, hgt1b, hlt1b⟩⟩, hc, hw⟩
          have HLt1a := Lib.hid hst1a
          obtain ⟨at1a, nt1a, ct1a, rfl⟩ := hst1a.here.shape
          have hnt1a : nt1a ≤ 7 := by have h1 := hst1a.here.len; omega
          have HEt1a := Lib.hid hst1a.here.len
          clear hst1a
          have HLt1b := Lib.hid hst1b
          obtain ⟨at1b, nt1b, ct1b, rfl⟩ := hst1b.here.shape
          have hnt1b : nt1b ≤ 7 := by have h1 := hst1b.here.len; omega
          have HEt1b := Lib.hid hst1b.here.len
          clear hst1b
          replace HLt1a : Hid (SinceT _ ut1.heap.size ut1 _) := SinceT.of HLt1a.out (Below.refl _ _) ⟨Nat.le_refl _, Nat.le_refl _⟩
          replace HLt1b : Hid (SinceT _ ut1.heap.size ut1 _) := SinceT.of HLt1b.out (Below.refl _ _) ⟨Nat.le_refl _, Nat.le_refl _⟩
          have hgt1n : 1 ≤ nt1b := by have := HEt1b.out; omega
          have hszt1 := hw.size
          replace HX0 := Lib.hid (HX0.out.kept hw (.inl (by omega)))
          replace HX1 := Lib.hid (HX1.out.kept hw (.inl (by omega)))
          replace HZ1 := Lib.hid (HZ1.out.kept hw (.inr (by omega)))
          replace HZ7 := Lib.hid (HZ7.out.kept hw (.inr (by omega)))
          replace HL7 := Lib.hid (HL7.out.within hw (by omega))
          replace HW := Lib.hid (HW.out.trans hw)
          replace HC := Lib.hid hc
          clear hc hw
          clear z_2_0 z_2_1 z_2_2 z_3_0 z_3_1
          have z_2_0 := HZ1.out.cell (i := 0) rfl
          have z_2_1 := HZ1.out.cell (i := 1) rfl
          have z_2_2 := HZ1.out.cell (i := 2) rfl
          have z_3_0 := HZ7.out.cell (i := 0) rfl
          have z_3_1 := HZ7.out.cell (i := 1) rfl
          refine hK.out _ _ ⟨z_2_0, z_2_1, z_2_2, z_3_0, z_3_1⟩ (fun _ => ?_)
          clear hK K
          (try simp only [Act.put, List.setIfInBounds_toArray, List.set_cons_zero, List.set_cons_succ])
          refine wpV_do (by kernel_rfl) (fun K hK => ?_)
          -- 8: store
          have r0 := HX0.out.cell (i := 0) rfl
          have r1 := HX0.out.cell (i := 1) rfl
          have r2 := HX0.out.cell (i := 2) rfl
          have fr := fun j => HX0.out.frozen j
          obtain ⟨Y2, hY⟩ : ∃ Y, Y = ((ut1.setCell ⟨w.heap.size, 0, none⟩ (.int .i64 P)).setCell ⟨w.heap.size, 1, none⟩ (.int .i64 Q)).setCell ⟨w.heap.size, 2, none⟩ (.int .i64 G) := ⟨_, rfl⟩
          have hYl : Within (w.heap.size) (w.heap.size + 1) ut1 Y2 := by rw [hY]; exact ((((Within.refl (w.heap.size) (w.heap.size + 1) ut1).setCell (b := w.heap.size) (by omega) (by omega) 0 (.int .i64 P)).setCell (b := w.heap.size) (by omega) (by omega) 1 (.int .i64 Q)).setCell (b := w.heap.size) (by omega) (by omega) 2 (.int .i64 G))
          have HYW : Hid (Within w.heap.size (w.heap.size + 2) ut1 Y2) := hYl.mono (by omega) (by omega)
          have HYB : Hid (Below w.heap.size w Y2) := hYl.belowU (HW.out.belowOf HBW.out (by omega)) (by omega)
          have HCS : Hid (∀ w', Within w.heap.size (w.heap.size + 2) ut1 w' → w'.cell? ⟨u1.heap.size, 0, none⟩ = some (.int .i64 P) ∧ w'.cell? ⟨u1.heap.size, 1, none⟩ = some (.int .i64 Q) ∧ w'.cell? ⟨u1.heap.size, 2, none⟩ = some (.int .i64 G) ∧ w'.cell? ⟨u9.heap.size, 0, none⟩ = some (.int .i64 0) ∧ w'.cell? ⟨u9.heap.size, 1, none⟩ = some (.int .i64 8)) := fun w' h => ⟨within_at h z_2_0 (by omega), within_at h z_2_1 (by omega), within_at h z_2_2 (by omega), within_at h z_3_0 (by omega), within_at h z_3_1 (by omega)⟩
          go_simp
          refine hK.out _ _ ?_ (fun _ => ?_)
          · rw [← hY]; exact HCS.out _ HYW.out
          rw [← hY]
          clear hK K fr r0 r1 r2
          replace HX0 : Hid (BoxN Y2 w.heap.size 24 [.int .i64 P, .int .i64 Q, .int .i64 G]) := by unfold Hid; rw [hY]; exact (((HX0.out.set 0 (.int .i64 P)).set 1 (.int .i64 Q)).set 2 (.int .i64 G))
          replace HX1 := Lib.hid (HX1.out.kept hYl (by omega))
          clear hY hYl
          (try simp only [Act.put, List.setIfInBounds_toArray, List.set_cons_zero, List.set_cons_succ])
          clear z_2_0 z_2_1 z_2_2 z_3_0 z_3_1
          obtain ⟨z_2_0, z_2_1, z_2_2, z_3_0, z_3_1⟩ := HCS.out _ HYW.out
          refine wpV_do (by kernel_rfl) (fun K hK => ?_)
          -- 9: store
          have r0 := HX1.out.cell (i := 0) rfl
          have r1 := HX1.out.cell (i := 1) rfl
          have fr := fun j => HX1.out.frozen j
          obtain ⟨Y3, hY⟩ : ∃ Y, Y = (Y2.setCell ⟨w.heap.size + 1, 0, none⟩ (.slice at1a nt1a ct1a)).setCell ⟨w.heap.size + 1, 1, none⟩ (.slice at1b nt1b ct1b) := ⟨_, rfl⟩
          have hYl : Within (w.heap.size + 1) (w.heap.size + 1 + 1) Y2 Y3 := by rw [hY]; exact (((Within.refl (w.heap.size + 1) (w.heap.size + 1 + 1) Y2).setCell (b := w.heap.size + 1) (by omega) (by omega) 0 (.slice at1a nt1a ct1a)).setCell (b := w.heap.size + 1) (by omega) (by omega) 1 (.slice at1b nt1b ct1b))
          replace HYW := Lib.hid (HYW.out.trans (hYl.mono (by omega) (by omega)))
          replace HYB := Lib.hid (hYl.belowU HYB.out (by omega))
          go_simp
          refine hK.out _ _ ?_ (fun _ => ?_)
          · rw [← hY]; exact HCS.out _ HYW.out
          rw [← hY]
          clear hK K fr r0 r1
          replace HX1 : Hid (BoxN Y3 (w.heap.size + 1) 27 [.slice at1a nt1a ct1a, .slice at1b nt1b ct1b]) := by unfold Hid; rw [hY]; exact ((HX1.out.set 0 (.slice at1a nt1a ct1a)).set 1 (.slice at1b nt1b ct1b))
          replace HX0 := Lib.hid (HX0.out.kept hYl (by omega))
          clear hY hYl
          (try simp only [Act.put, List.setIfInBounds_toArray, List.set_cons_zero, List.set_cons_succ])
          clear z_2_0 z_2_1 z_2_2 z_3_0 z_3_1
          obtain ⟨z_2_0, z_2_1, z_2_2, z_3_0, z_3_1⟩ := HCS.out _ HYW.out
          refine wpV_do (by kernel_rfl) (fun K hK => ?_)
          -- 10: load
          go_simp
          refine hK.out _ _ ⟨z_2_0, z_2_1, z_2_2, z_3_0, z_3_1⟩ (fun _ => ?_)
          clear hK K
          (try simp only [Act.put, List.setIfInBounds_toArray, List.set_cons_zero, List.set_cons_succ])
          refine wpV_done ?_
          go_wp2_with fail
          refine NoPanic.normal ?_
          clear z_2_0 z_2_1 z_2_2 z_3_0 z_3_1
          have t_HX0_0 := HX0.out.cell (i := 0) rfl
          have t_HX0_1 := HX0.out.cell (i := 1) rfl
          have t_HX0_2 := HX0.out.cell (i := 2) rfl
          have t_HX1_0 := HX1.out.cell (i := 0) rfl
          have t_HX1_1 := HX1.out.cell (i := 1) rfl
          try (go_wp2_with fail)
          refine bodyPost_ret (v := .tuple #[.agg #[.int .i64 P, .int .i64 Q, .int .i64 G], .agg #[.slice at1a nt1a ct1a, .slice at1b nt1b ct1b], .int .i64 x11, .slice ao no co]) (by simp [results, Tryz.results8, go_sem, t_HX0_0, t_HX0_1, t_HX0_2, t_HX1_0, t_HX1_1]) rfl ⟨⟨_, _, _, _, _, _, _, _, _, _, rfl, HGR.out, ⟨(HLt1a.out.within HYW.out (by omega)).here, by have := HEt1a.out; omega⟩, ⟨(HLt1b.out.within HYW.out (by omega)).here, by have := HEt1b.out; omega⟩, ⟨by omega, by omega⟩, ⟨(HL7.out.within HYW.out (by omega)).here, by have := HE7.out; omega⟩⟩, HYB.out⟩
      | true =>
        have z_0_0 := HX0.out.cell (i := 0) rfl
        have z_0_1 := HX0.out.cell (i := 1) rfl
        have z_0_2 := HX0.out.cell (i := 2) rfl
        have z_1_0 := HX1.out.cell (i := 0) rfl
        have z_1_1 := HX1.out.cell (i := 1) rfl
        have z_2_0 := HZ1.out.cell (i := 0) rfl
        have z_2_1 := HZ1.out.cell (i := 1) rfl
        have z_2_2 := HZ1.out.cell (i := 2) rfl
        try (go_wp2_with fail)
        clear z_0_0 z_0_1 z_0_2 z_1_0 z_1_1 z_2_0 z_2_1 z_2_2
        refine (spec_zerosI U g _ P Q G i (nn : Int) (tt : Int) _ HC.out (HW.out.belowOf HUC.out (Nat.le_of_eq HUS.out)) (by omega) HGR.out (by omega) (by omega) (by omega)).mono ?_
        rintro e u9 ⟨⟨v9, l9, rfl, ho9, hl9⟩, hc, hw⟩
        obtain ⟨a9, n9, c9, rfl⟩ := ho9.rd.shape
        have HE9 := Lib.hid ho9.rd.len
        have HL9 := Lib.hid ho9
        have hn9 : n9 ≤ 3 := by have := HE9.out; omega
        clear ho9
        have hsz9 := hw.size
        replace HX0 := Lib.hid (HX0.out.kept hw (.inl (by omega)))
        replace HX1 := Lib.hid (HX1.out.kept hw (.inl (by omega)))
        replace HZ1 := Lib.hid (HZ1.out.kept hw (.inr (by omega)))
        replace HL7 := Lib.hid (HL7.out.within hw (by omega))
        replace HW := Lib.hid (HW.out.trans hw)
        replace HC := Lib.hid hc
        clear hc hw
        have z_0_0 := HX0.out.cell (i := 0) rfl
        have z_0_1 := HX0.out.cell (i := 1) rfl
        have z_0_2 := HX0.out.cell (i := 2) rfl
        have z_1_0 := HX1.out.cell (i := 0) rfl
        have z_1_1 := HX1.out.cell (i := 1) rfl
        have z_2_0 := HZ1.out.cell (i := 0) rfl
        have z_2_1 := HZ1.out.cell (i := 1) rfl
        have z_2_2 := HZ1.out.cell (i := 2) rfl
        have hEu : uE.heap.size ≤ u9.heap.size := by omega
        go_wp2_with (at_builtin; refine wpList_append_DsA (B := uE.heap.size) rfl _ _ rfl rfl rfl HL7.out (HL9.out.mono (by omega)) hEu (by have := HE7.out; have := HE9.out; omega) ?_; intro v9 w9 hown9 hb9)
        clear z_0_0 z_0_1 z_0_2 z_1_0 z_1_1 z_2_0 z_2_1 z_2_2
        have hs9 : u9.heap.size ≤ w9.heap.size := hb9.size
        obtain ⟨am, nm, cm, rfl⟩ := hown9.rd.shape
        have HEm := Lib.hid hown9.rd.len
        have hnm : nm ≤ 6 := by have h1 := HEm.out; have h2 := HE7.out; have h3 := HE9.out; rw [List.length_append] at h1; omega
        have HLm := Lib.hid hown9
        replace HC := Lib.hid (HC.out.belowB hb9 (by omega))
        replace HW := Lib.hid (HW.out.belowStep (hb9.mono (by omega)))
        replace HX0 := Lib.hid (HX0.out.belowB hb9 (by omega))
        replace HX1 := Lib.hid (HX1.out.belowB hb9 (by omega))
        replace HZ1 := Lib.hid (HZ1.out.belowB hb9 (by omega))
        clear hb9 hown9 HL7 HL9
        have z_0_0 := HX0.out.cell (i := 0) rfl
        have z_0_1 := HX0.out.cell (i := 1) rfl
        have z_0_2 := HX0.out.cell (i := 2) rfl
        have z_1_0 := HX1.out.cell (i := 0) rfl
        have z_1_1 := HX1.out.cell (i := 1) rfl
        have z_2_0 := HZ1.out.cell (i := 0) rfl
        have z_2_1 := HZ1.out.cell (i := 1) rfl
        have z_2_2 := HZ1.out.cell (i := 2) rfl
        try (go_wp2_with fail)
        clear z_0_0 z_0_1 z_0_2 z_1_0 z_1_1 z_2_0 z_2_1 z_2_2
        refine (spec_one U g _ 20 _ HC.out (HW.out.belowOf HUC.out (Nat.le_of_eq HUS.out)) (by omega) ).mono ?_
        rintro e u10 ⟨⟨b10, rfl⟩, hc, hw⟩
        have hsz10 := hw.size
        replace HX0 := Lib.hid (HX0.out.kept hw (.inl (by omega)))
        replace HX1 := Lib.hid (HX1.out.kept hw (.inl (by omega)))
        replace HZ1 := Lib.hid (HZ1.out.kept hw (.inr (by omega)))
        replace HLm := Lib.hid (HLm.out.within hw (by omega))
        replace HW := Lib.hid (HW.out.trans hw)
        replace HC := Lib.hid hc
        clear hc hw
        cases b10 with
        | false =>
          have z_0_0 := HX0.out.cell (i := 0) rfl
          have z_0_1 := HX0.out.cell (i := 1) rfl
          have z_0_2 := HX0.out.cell (i := 2) rfl
          have z_1_0 := HX1.out.cell (i := 0) rfl
          have z_1_1 := HX1.out.cell (i := 1) rfl
          have z_2_0 := HZ1.out.cell (i := 0) rfl
          have z_2_1 := HZ1.out.cell (i := 1) rfl
          have z_2_2 := HZ1.out.cell (i := 2) rfl
          try (go_wp2_with fail)
          clear z_0_0
          clear z_0_1
          clear z_0_2
          clear z_1_0
          clear z_1_1
          refine wp_region_noPanic ?_
          refine wp_region_V (fun w' => w'.cell? ⟨u1.heap.size, 0, none⟩ = some (.int .i64 P) ∧ w'.cell? ⟨u1.heap.size, 1, none⟩ = some (.int .i64 Q) ∧ w'.cell? ⟨u1.heap.size, 2, none⟩ = some (.int .i64 G)) 14 11 (.rd 0 (.rd 1 (.rd 2 (.rd 3 (.rd 4 (.rd 6 (.rd 7 (.alt 5 (.alt 8 (.alt 9 (.alt 10 .done .nil) .nil) .nil) .nil)))))))) [11] (by kernel_rfl) (by kernel_rfl) rfl (fun _ _ _ _ _ h => h) ⟨box_at z_2_0 (Below.refl _ _).drew, box_at z_2_1 (Below.refl _ _).drew, box_at z_2_2 (Below.refl _ _).drew⟩ ?_
          simp only [pickV, pickN, List.getElem?_cons_zero, List.getElem?_cons_succ]
          repeat (refine' wpV_read _ (by kernel_rfl) (fun w' hS' => ?_) ?_; rotate_left; (focus ((try dsimp only at hS'); go_simp; (try with_reducible rfl))); (try simp only [Act.put, List.setIfInBounds_toArray, List.set_cons_zero, List.set_cons_succ]))
          have hdr : Below u10.heap.size u10 u10.drew := (Below.refl _ _).drew
          have hszd := hdr.size
          replace HX0 := Lib.hid (HX0.out.below hdr)
          replace HX1 := Lib.hid (HX1.out.below hdr)
          replace HZ1 := Lib.hid (HZ1.out.below hdr)
          replace HLm := Lib.hid (HLm.out.below hdr)
          replace HW := Lib.hid (HW.out.trans (Within.of_below hdr))
          replace HC := Lib.hid (HC.out.keep hdr)
          clear hdr
          refine wpV_do (by kernel_rfl) (fun K hK => ?_)
          -- 5: call
          go_simp
          go_at_call 23
          refine (spec_sharedKeyI U g _ P Q G (nn : Int) (tt : Int) _ HC.out (HW.out.belowOf HUC.out (Nat.le_of_eq HUS.out)) (by omega) HGR.out (by omega) (by omega)).mono ?_
          rintro e ut1 ⟨⟨vt1a, vt1b, lt1a, lt1b, rfl, ⟨hst1a, hlt1a⟩, ⟨hst1b, hgt1b, hlt1b⟩⟩, hc, hw⟩
          have HLt1a := Lib.hid hst1a
          obtain ⟨at1a, nt1a, ct1a, rfl⟩ := hst1a.here.shape
          have hnt1a : nt1a ≤ 7 := by have h1 := hst1a.here.len; omega
          have HEt1a := Lib.hid hst1a.here.len
          clear hst1a
          have HLt1b := Lib.hid hst1b
          obtain ⟨at1b, nt1b, ct1b, rfl⟩ := hst1b.here.shape
          have hnt1b : nt1b ≤ 7 := by have h1 := hst1b.here.len; omega
          have HEt1b := Lib.hid hst1b.here.len
          clear hst1b
          replace HLt1a : Hid (SinceT _ ut1.heap.size ut1 _) := SinceT.of HLt1a.out (Below.refl _ _) ⟨Nat.le_refl _, Nat.le_refl _⟩
          replace HLt1b : Hid (SinceT _ ut1.heap.size ut1 _) := SinceT.of HLt1b.out (Below.refl _ _) ⟨Nat.le_refl _, Nat.le_refl _⟩
          have hgt1n : 1 ≤ nt1b := by have := HEt1b.out; omega
          have hszt1 := hw.size
          replace HX0 := Lib.hid (HX0.out.kept hw (.inl (by omega)))
          replace HX1 := Lib.hid (HX1.out.kept hw (.inl (by omega)))
          replace HZ1 := Lib.hid (HZ1.out.kept hw (.inr (by omega)))
          replace HLm := Lib.hid (HLm.out.within hw (by omega))
          replace HW := Lib.hid (HW.out.trans hw)
          replace HC := Lib.hid hc
          clear hc hw
          clear z_2_0 z_2_1 z_2_2
          have z_2_0 := HZ1.out.cell (i := 0) rfl
          have z_2_1 := HZ1.out.cell (i := 1) rfl
          have z_2_2 := HZ1.out.cell (i := 2) rfl
          refine hK.out _ _ ⟨z_2_0, z_2_1, z_2_2⟩ (fun _ => ?_)
          clear hK K
          (try simp only [Act.put, List.setIfInBounds_toArray, List.set_cons_zero, List.set_cons_succ])
          refine wpV_do (by kernel_rfl) (fun K hK => ?_)
          -- 8: store
          have r0 := HX0.out.cell (i := 0) rfl
          have r1 := HX0.out.cell (i := 1) rfl
          have r2 := HX0.out.cell (i := 2) rfl
          have fr := fun j => HX0.out.frozen j
          obtain ⟨Y2, hY⟩ : ∃ Y, Y = ((ut1.setCell ⟨w.heap.size, 0, none⟩ (.int .i64 P)).setCell ⟨w.heap.size, 1, none⟩ (.int .i64 Q)).setCell ⟨w.heap.size, 2, none⟩ (.int .i64 G) := ⟨_, rfl⟩
          have hYl : Within (w.heap.size) (w.heap.size + 1) ut1 Y2 := by rw [hY]; exact ((((Within.refl (w.heap.size) (w.heap.size + 1) ut1).setCell (b := w.heap.size) (by omega) (by omega) 0 (.int .i64 P)).setCell (b := w.heap.size) (by omega) (by omega) 1 (.int .i64 Q)).setCell (b := w.heap.size) (by omega) (by omega) 2 (.int .i64 G))
          have HYW : Hid (Within w.heap.size (w.heap.size + 2) ut1 Y2) := hYl.mono (by omega) (by omega)
          have HYB : Hid (Below w.heap.size w Y2) := hYl.belowU (HW.out.belowOf HBW.out (by omega)) (by omega)
          have HCS : Hid (∀ w', Within w.heap.size (w.heap.size + 2) ut1 w' → w'.cell? ⟨u1.heap.size, 0, none⟩ = some (.int .i64 P) ∧ w'.cell? ⟨u1.heap.size, 1, none⟩ = some (.int .i64 Q) ∧ w'.cell? ⟨u1.heap.size, 2, none⟩ = some (.int .i64 G)) := fun w' h => ⟨within_at h z_2_0 (by omega), within_at h z_2_1 (by omega), within_at h z_2_2 (by omega)⟩
          go_simp
          refine hK.out _ _ ?_ (fun _ => ?_)
          · rw [← hY]; exact HCS.out _ HYW.out
          rw [← hY]
          clear hK K fr r0 r1 r2
          replace HX0 : Hid (BoxN Y2 w.heap.size 24 [.int .i64 P, .int .i64 Q, .int .i64 G]) := by unfold Hid; rw [hY]; exact (((HX0.out.set 0 (.int .i64 P)).set 1 (.int .i64 Q)).set 2 (.int .i64 G))
          replace HX1 := Lib.hid (HX1.out.kept hYl (by omega))
          clear hY hYl
          (try simp only [Act.put, List.setIfInBounds_toArray, List.set_cons_zero, List.set_cons_succ])
          clear z_2_0 z_2_1 z_2_2
          obtain ⟨z_2_0, z_2_1, z_2_2⟩ := HCS.out _ HYW.out
          refine wpV_do (by kernel_rfl) (fun K hK => ?_)
          -- 9: store
          have r0 := HX1.out.cell (i := 0) rfl
          have r1 := HX1.out.cell (i := 1) rfl
          have fr := fun j => HX1.out.frozen j
          obtain ⟨Y3, hY⟩ : ∃ Y, Y = (Y2.setCell ⟨w.heap.size + 1, 0, none⟩ (.slice at1a nt1a ct1a)).setCell ⟨w.heap.size + 1, 1, none⟩ (.slice at1b nt1b ct1b) := ⟨_, rfl⟩
          have hYl : Within (w.heap.size + 1) (w.heap.size + 1 + 1) Y2 Y3 := by rw [hY]; exact (((Within.refl (w.heap.size + 1) (w.heap.size + 1 + 1) Y2).setCell (b := w.heap.size + 1) (by omega) (by omega) 0 (.slice at1a nt1a ct1a)).setCell (b := w.heap.size + 1) (by omega) (by omega) 1 (.slice at1b nt1b ct1b))
          replace HYW := Lib.hid (HYW.out.trans (hYl.mono (by omega) (by omega)))
          replace HYB := Lib.hid (hYl.belowU HYB.out (by omega))
          go_simp
          refine hK.out _ _ ?_ (fun _ => ?_)
          · rw [← hY]; exact HCS.out _ HYW.out
          rw [← hY]
          clear hK K fr r0 r1
          replace HX1 : Hid (BoxN Y3 (w.heap.size + 1) 27 [.slice at1a nt1a ct1a, .slice at1b nt1b ct1b]) := by unfold Hid; rw [hY]; exact ((HX1.out.set 0 (.slice at1a nt1a ct1a)).set 1 (.slice at1b nt1b ct1b))
          replace HX0 := Lib.hid (HX0.out.kept hYl (by omega))
          clear hY hYl
          (try simp only [Act.put, List.setIfInBounds_toArray, List.set_cons_zero, List.set_cons_succ])
          clear z_2_0 z_2_1 z_2_2
          obtain ⟨z_2_0, z_2_1, z_2_2⟩ := HCS.out _ HYW.out
          refine wpV_do (by kernel_rfl) (fun K hK => ?_)
          -- 10: load
          go_simp
          refine hK.out _ _ ⟨z_2_0, z_2_1, z_2_2⟩ (fun _ => ?_)
          clear hK K
          (try simp only [Act.put, List.setIfInBounds_toArray, List.set_cons_zero, List.set_cons_succ])
          refine wpV_done ?_
          go_wp2_with fail
          refine NoPanic.normal ?_
          clear z_2_0 z_2_1 z_2_2
          have t_HX0_0 := HX0.out.cell (i := 0) rfl
          have t_HX0_1 := HX0.out.cell (i := 1) rfl
          have t_HX0_2 := HX0.out.cell (i := 2) rfl
          have t_HX1_0 := HX1.out.cell (i := 0) rfl
          have t_HX1_1 := HX1.out.cell (i := 1) rfl
          try (go_wp2_with fail)
          refine bodyPost_ret (v := .tuple #[.agg #[.int .i64 P, .int .i64 Q, .int .i64 G], .agg #[.slice at1a nt1a ct1a, .slice at1b nt1b ct1b], .int .i64 i, .slice am nm cm]) (by simp [results, Tryz.results8, go_sem, t_HX0_0, t_HX0_1, t_HX0_2, t_HX1_0, t_HX1_1]) rfl ⟨⟨_, _, _, _, _, _, _, _, _, _, rfl, HGR.out, ⟨(HLt1a.out.within HYW.out (by omega)).here, by have := HEt1a.out; omega⟩, ⟨(HLt1b.out.within HYW.out (by omega)).here, by have := HEt1b.out; omega⟩, ⟨by omega, by omega⟩, ⟨(HLm.out.within HYW.out (by omega)).here, by have := HEm.out; omega⟩⟩, HYB.out⟩
        | true =>
          have z_0_0 := HX0.out.cell (i := 0) rfl
          have z_0_1 := HX0.out.cell (i := 1) rfl
          have z_0_2 := HX0.out.cell (i := 2) rfl
          have z_1_0 := HX1.out.cell (i := 0) rfl
          have z_1_1 := HX1.out.cell (i := 1) rfl
          have z_2_0 := HZ1.out.cell (i := 0) rfl
          have z_2_1 := HZ1.out.cell (i := 1) rfl
          have z_2_2 := HZ1.out.cell (i := 2) rfl
          have lt_HX0 := HX0.out.lt
          have lt_HX1 := HX1.out.lt
          have lt_HZ1 := HZ1.out.lt
          obtain ⟨V11, hV⟩ : ∃ V, V = u10.alloc (.cells #[.int .i64 0, .int .i64 8] 3) := ⟨_, rfl⟩
          have hbV : Below u10.heap.size u10 V11 := by rw [hV]; (repeat (first | exact Below.refl _ _ | assumption | refine Below.drew ?_ | refine Below.alloc ?_ (by first | (simp; done) | (simp; omega)) _ | refine Below.setCell ?_ (by first | (simp; done) | (simp; omega)) _))
          have HO6 : Hid (OwnI V11 u10.heap.size (.slice (some ⟨u10.heap.size, 0, none⟩) 2 2) [0, 8]) := by unfold Hid; rw [hV]; have h := (OwnI.lit (B := u10.heap.size) u10 (by simp) (l := [0, 8]) (AllI64.cons ⟨by decide, by decide⟩ (AllI64.cons ⟨by decide, by decide⟩ AllI64.nil)) rfl (by simp [maxLen]) 2 rfl); simpa using h
          have HZ7 : Hid (BoxN V11 u10.heap.size 3 [.int .i64 0, .int .i64 8]) := by unfold Hid; rw [hV]; have h := (BoxN.new u10 [.int .i64 0, .int .i64 8] 3); simpa using h
          have hgc : g < u10.heap.size := HC.out.lt
          go_wp2_with fail
          rw [← hV]
          have hsV11 : V11.heap.size = u10.heap.size + 1 := by rw [hV]; simp
          clear hV hgc
          replace HX0 := Lib.hid (HX0.out.below hbV)
          replace HX1 := Lib.hid (HX1.out.below hbV)
          replace HZ1 := Lib.hid (HZ1.out.below hbV)
          replace HLm := Lib.hid (HLm.out.below hbV)
          replace HW := Lib.hid (HW.out.trans (Within.of_below hbV))
          replace HC := Lib.hid (HC.out.keep hbV)
          clear hbV
          clear z_0_0 z_0_1 z_0_2 z_1_0 z_1_1 z_2_0 z_2_1 z_2_2
          clear lt_HX0
          clear lt_HX1
          clear lt_HZ1
          refine (spec_among U g _ _ [0, 8] _ HC.out (HW.out.belowOf HUC.out (Nat.le_of_eq HUS.out)) (by omega) (Apart.of_ownI HO6.out (by omega)) (by decide)).mono ?_
          rintro e u12 ⟨⟨x12, rfl, hm12⟩, hc, hw⟩
          have x12l : -10 ≤ x12 := by simp at hm12; omega
          have x12u : x12 ≤ 8 := by simp at hm12; omega
          clear hm12
          have hsz12 := hw.size
          replace HX0 := Lib.hid (HX0.out.kept hw (.inl (by omega)))
          replace HX1 := Lib.hid (HX1.out.kept hw (.inl (by omega)))
          replace HZ1 := Lib.hid (HZ1.out.kept hw (.inr (by omega)))
          replace HZ7 := Lib.hid (HZ7.out.kept hw (.inr (by omega)))
          replace HLm := Lib.hid (HLm.out.within hw (by omega))
          replace HW := Lib.hid (HW.out.trans hw)
          replace HC := Lib.hid hc
          clear hc hw
          have z_0_0 := HX0.out.cell (i := 0) rfl
          have z_0_1 := HX0.out.cell (i := 1) rfl
          have z_0_2 := HX0.out.cell (i := 2) rfl
          have z_1_0 := HX1.out.cell (i := 0) rfl
          have z_1_1 := HX1.out.cell (i := 1) rfl
          have z_2_0 := HZ1.out.cell (i := 0) rfl
          have z_2_1 := HZ1.out.cell (i := 1) rfl
          have z_2_2 := HZ1.out.cell (i := 2) rfl
          have z_3_0 := HZ7.out.cell (i := 0) rfl
          have z_3_1 := HZ7.out.cell (i := 1) rfl
          try (go_wp2_with fail)
          clear z_0_0
          clear z_0_1
          clear z_0_2
          clear z_1_0
          clear z_1_1
          refine wp_region_noPanic ?_
          refine wp_region_V (fun w' => w'.cell? ⟨u1.heap.size, 0, none⟩ = some (.int .i64 P) ∧ w'.cell? ⟨u1.heap.size, 1, none⟩ = some (.int .i64 Q) ∧ w'.cell? ⟨u1.heap.size, 2, none⟩ = some (.int .i64 G) ∧ w'.cell? ⟨u10.heap.size, 0, none⟩ = some (.int .i64 0) ∧ w'.cell? ⟨u10.heap.size, 1, none⟩ = some (.int .i64 8)) 14 11 (.rd 0 (.rd 1 (.rd 2 (.rd 3 (.rd 4 (.rd 6 (.rd 7 (.alt 5 (.alt 8 (.alt 9 (.alt 10 .done .nil) .nil) .nil) .nil)))))))) [11] (by kernel_rfl) (by kernel_rfl) rfl (fun _ _ _ _ _ h => h) ⟨box_at z_2_0 (Below.refl _ _).drew, box_at z_2_1 (Below.refl _ _).drew, box_at z_2_2 (Below.refl _ _).drew, box_at z_3_0 (Below.refl _ _).drew, box_at z_3_1 (Below.refl _ _).drew⟩ ?_
          simp only [pickV, pickN, List.getElem?_cons_zero, List.getElem?_cons_succ]
          repeat (refine' wpV_read _ (by kernel_rfl) (fun w' hS' => ?_) ?_; rotate_left; (focus ((try dsimp only at hS'); go_simp; (try with_reducible rfl))); (try simp only [Act.put, List.setIfInBounds_toArray, List.set_cons_zero, List.set_cons_succ]))
          have hdr : Below u12.heap.size u12 u12.drew := (Below.refl _ _).drew
          have hszd := hdr.size
          replace HX0 := Lib.hid (HX0.out.below hdr)
          replace HX1 := Lib.hid (HX1.out.below hdr)
          replace HZ1 := Lib.hid (HZ1.out.below hdr)
          replace HZ7 := Lib.hid (HZ7.out.below hdr)
          replace HLm := Lib.hid (HLm.out.below hdr)
          replace HW := Lib.hid (HW.out.trans (Within.of_below hdr))
          replace HC := Lib.hid (HC.out.keep hdr)
          clear hdr
          refine wpV_do (by kernel_rfl) (fun K hK => ?_)
          -- 5: call
          go_simp
          go_at_call 23
          refine (spec_sharedKeyI U g _ P Q G (nn : Int) (tt : Int) _ HC.out (HW.out.belowOf HUC.out (Nat.le_of_eq HUS.out)) (by omega) HGR.out (by omega) (by omega)).mono ?_
          rintro e ut1 ⟨⟨vt1a, vt1b, lt1a, lt1b, rfl, ⟨hst1a, hlt1a⟩, ⟨hst1b, hgt1b, hlt1b⟩⟩, hc, hw⟩
          have HLt1a := Lib.hid hst1a
          obtain ⟨at1a, nt1a, ct1a, rfl⟩ := hst1a.here.shape
          have hnt1a : nt1a ≤ 7 := by have h1 := hst1a.here.len; omega
          have HEt1a := Lib.hid hst1a.here.len
          clear hst1a
          have HLt1b := Lib.hid hst1b
          obtain ⟨at1b, nt1b, ct1b, rfl⟩ := hst1b.here.shape
          have hnt1b : nt1b ≤ 7 := by have h1 := hst1b.here.len; omega
          have HEt1b := Lib.hid hst1b.here.len
          clear hst1b
          replace HLt1a : Hid (SinceT _ ut1.heap.size ut1 _) := SinceT.of HLt1a.out (Below.refl _ _) ⟨Nat.le_refl _, Nat.le_refl _⟩
          replace HLt1b : Hid (SinceT _ ut1.heap.size ut1 _) := SinceT.of HLt1b.out (Below.refl _ _) ⟨Nat.le_refl _, Nat.le_refl _⟩
          have hgt1n : 1 ≤ nt1b := by have := HEt1b.out; omega
          have hszt1 := hw.size
          replace HX0 := Lib.hid (HX0.out.kept hw (.inl (by omega)))
          replace HX1 := Lib.hid (HX1.out.kept hw (.inl (by omega)))
          replace HZ1 := Lib.hid (HZ1.out.kept hw (.inr (by omega)))
          replace HZ7 := Lib.hid (HZ7.out.kept hw (.inr (by omega)))
          replace HLm := Lib.hid (HLm.out.within hw (by omega))
          replace HW := Lib.hid (HW.out.trans hw)
          replace HC := Lib.hid hc
          clear hc hw
          clear z_2_0 z_2_1 z_2_2 z_3_0 z_3_1
          have z_2_0 := HZ1.out.cell (i := 0) rfl
          have z_2_1 := HZ1.out.cell (i := 1) rfl
          have z_2_2 := HZ1.out.cell (i := 2) rfl
          have z_3_0 := HZ7.out.cell (i := 0) rfl
          have z_3_1 := HZ7.out.cell (i := 1) rfl
          refine hK.out _ _ ⟨z_2_0, z_2_1, z_2_2, z_3_0, z_3_1⟩ (fun _ => ?_)
          clear hK K
          (try simp only [Act.put, List.setIfInBounds_toArray, List.set_cons_zero, List.set_cons_succ])
          refine wpV_do (by kernel_rfl) (fun K hK => ?_)
          -- 8: store
          have r0 := HX0.out.cell (i := 0) rfl
          have r1 := HX0.out.cell (i := 1) rfl
          have r2 := HX0.out.cell (i := 2) rfl
          have fr := fun j => HX0.out.frozen j
          obtain ⟨Y2, hY⟩ : ∃ Y, Y = ((ut1.setCell ⟨w.heap.size, 0, none⟩ (.int .i64 P)).setCell ⟨w.heap.size, 1, none⟩ (.int .i64 Q)).setCell ⟨w.heap.size, 2, none⟩ (.int .i64 G) := ⟨_, rfl⟩
          have hYl : Within (w.heap.size) (w.heap.size + 1) ut1 Y2 := by rw [hY]; exact ((((Within.refl (w.heap.size) (w.heap.size + 1) ut1).setCell (b := w.heap.size) (by omega) (by omega) 0 (.int .i64 P)).setCell (b := w.heap.size) (by omega) (by omega) 1 (.int .i64 Q)).setCell (b := w.heap.size) (by omega) (by omega) 2 (.int .i64 G))
          have HYW : Hid (Within w.heap.size (w.heap.size + 2) ut1 Y2) := hYl.mono (by omega) (by omega)
          have HYB : Hid (Below w.heap.size w Y2) := hYl.belowU (HW.out.belowOf HBW.out (by omega)) (by omega)
          have HCS : Hid (∀ w', Within w.heap.size (w.heap.size + 2) ut1 w' → w'.cell? ⟨u1.heap.size, 0, none⟩ = some (.int .i64 P) ∧ w'.cell? ⟨u1.heap.size, 1, none⟩ = some (.int .i64 Q) ∧ w'.cell? ⟨u1.heap.size, 2, none⟩ = some (.int .i64 G) ∧ w'.cell? ⟨u10.heap.size, 0, none⟩ = some (.int .i64 0) ∧ w'.cell? ⟨u10.heap.size, 1, none⟩ = some (.int .i64 8)) := fun w' h => ⟨within_at h z_2_0 (by omega), within_at h z_2_1 (by omega), within_at h z_2_2 (by omega), within_at h z_3_0 (by omega), within_at h z_3_1 (by omega)⟩
          go_simp
          refine hK.out _ _ ?_ (fun _ => ?_)
          · rw [← hY]; exact HCS.out _ HYW.out
          rw [← hY]
          clear hK K fr r0 r1 r2
          replace HX0 : Hid (BoxN Y2 w.heap.size 24 [.int .i64 P, .int .i64 Q, .int .i64 G]) := by unfold Hid; rw [hY]; exact (((HX0.out.set 0 (.int .i64 P)).set 1 (.int .i64 Q)).set 2 (.int .i64 G))
          replace HX1 := Lib.hid (HX1.out.kept hYl (by omega))
          clear hY hYl
          (try simp only [Act.put, List.setIfInBounds_toArray, List.set_cons_zero, List.set_cons_succ])
          clear z_2_0 z_2_1 z_2_2 z_3_0 z_3_1
          obtain ⟨z_2_0, z_2_1, z_2_2, z_3_0, z_3_1⟩ := HCS.out _ HYW.out
          refine wpV_do (by kernel_rfl) (fun K hK => ?_)
          -- 9: store
          have r0 := HX1.out.cell (i := 0) rfl
          have r1 := HX1.out.cell (i := 1) rfl
          have fr := fun j => HX1.out.frozen j
          obtain ⟨Y3, hY⟩ : ∃ Y, Y = (Y2.setCell ⟨w.heap.size + 1, 0, none⟩ (.slice at1a nt1a ct1a)).setCell ⟨w.heap.size + 1, 1, none⟩ (.slice at1b nt1b ct1b) := ⟨_, rfl⟩
          have hYl : Within (w.heap.size + 1) (w.heap.size + 1 + 1) Y2 Y3 := by rw [hY]; exact (((Within.refl (w.heap.size + 1) (w.heap.size + 1 + 1) Y2).setCell (b := w.heap.size + 1) (by omega) (by omega) 0 (.slice at1a nt1a ct1a)).setCell (b := w.heap.size + 1) (by omega) (by omega) 1 (.slice at1b nt1b ct1b))
          replace HYW := Lib.hid (HYW.out.trans (hYl.mono (by omega) (by omega)))
          replace HYB := Lib.hid (hYl.belowU HYB.out (by omega))
          go_simp
          refine hK.out _ _ ?_ (fun _ => ?_)
          · rw [← hY]; exact HCS.out _ HYW.out
          rw [← hY]
          clear hK K fr r0 r1
          replace HX1 : Hid (BoxN Y3 (w.heap.size + 1) 27 [.slice at1a nt1a ct1a, .slice at1b nt1b ct1b]) := by unfold Hid; rw [hY]; exact ((HX1.out.set 0 (.slice at1a nt1a ct1a)).set 1 (.slice at1b nt1b ct1b))
          replace HX0 := Lib.hid (HX0.out.kept hYl (by omega))
          clear hY hYl
          (try simp only [Act.put, List.setIfInBounds_toArray, List.set_cons_zero, List.set_cons_succ])
          clear z_2_0 z_2_1 z_2_2 z_3_0 z_3_1
          obtain ⟨z_2_0, z_2_1, z_2_2, z_3_0, z_3_1⟩ := HCS.out _ HYW.out
          refine wpV_do (by kernel_rfl) (fun K hK => ?_)
          -- 10: load
          go_simp
          refine hK.out _ _ ⟨z_2_0, z_2_1, z_2_2, z_3_0, z_3_1⟩ (fun _ => ?_)
          clear hK K
          (try simp only [Act.put, List.setIfInBounds_toArray, List.set_cons_zero, List.set_cons_succ])
          refine wpV_done ?_
          go_wp2_with fail
          refine NoPanic.normal ?_
          clear z_2_0 z_2_1 z_2_2 z_3_0 z_3_1
          have t_HX0_0 := HX0.out.cell (i := 0) rfl
          have t_HX0_1 := HX0.out.cell (i := 1) rfl
          have t_HX0_2 := HX0.out.cell (i := 2) rfl
          have t_HX1_0 := HX1.out.cell (i := 0) rfl
          have t_HX1_1 := HX1.out.cell (i := 1) rfl
          try (go_wp2_with fail)
          refine bodyPost_ret (v := .tuple #[.agg #[.int .i64 P, .int .i64 Q, .int .i64 G], .agg #[.slice at1a nt1a ct1a, .slice at1b nt1b ct1b], .int .i64 x12, .slice am nm cm]) (by simp [results, Tryz.results8, go_sem, t_HX0_0, t_HX0_1, t_HX0_2, t_HX1_0, t_HX1_1]) rfl ⟨⟨_, _, _, _, _, _, _, _, _, _, rfl, HGR.out, ⟨(HLt1a.out.within HYW.out (by omega)).here, by have := HEt1a.out; omega⟩, ⟨(HLt1b.out.within HYW.out (by omega)).here, by have := HEt1b.out; omega⟩, ⟨by omega, by omega⟩, ⟨(HLm.out.within HYW.out (by omega)).here, by have := HEm.out; omega⟩⟩, HYB.out⟩
end Go.Proofs.YtacpnphfopmofaaGreat
