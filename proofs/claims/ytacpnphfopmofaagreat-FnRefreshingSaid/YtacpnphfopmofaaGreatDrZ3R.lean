/- Draws: dealings of zero, some of which may be wrong (printed by gen_drz3.py). -/
import Derived.Test.YtacpnphfopmofaaGreatDrZ2R
import Derived.Test.YtacpnphfopmofaaGreatMixR
import Derived.Deep.CutRange
namespace Go.Proofs.YtacpnphfopmofaaGreat
open Go.RowKit
set_option linter.unusedSimpArgs false
set_option linter.unusedVariables false

theorem OwnDs.mono {w : World} {B B' : Nat} {v : Value} {ds : List DealingD} (h : OwnDs w B v ds) (hB : B' ≤ B) : OwnDs w B' v ds := by
  obtain ⟨css, h1, h2, h3⟩ := h
  refine ⟨css, h1, ownsRow_mono h2 hB, fun i k1 k2 => ?_⟩
  obtain ⟨x, y, e, q1, q2⟩ := h3 i k1 k2
  exact ⟨x, y, e, q1.mono hB, q2.mono hB⟩
set_option maxRecDepth 100000 in
set_option maxHeartbeats 8000000 in
theorem spec_zeros (w0 : World) (g : Nat) (n P Q G : Int) (i : Int) (nn tt : Nat) (w : World) (h : Cur w0 w g n) (hb : Below w0.heap.size w0 w) (hn : n ≤ 400000000000000) (hgr : GrB ⟨P, Q, G⟩) (hi : 0 ≤ i ∧ i ≤ 1000) (hnn : 1 ≤ nn ∧ nn ≤ 7) (htt : 2 ≤ tt ∧ tt ≤ 7) :
    Calls Tryz.prog 25 #[.pointer (some ⟨g, 0, none⟩), .agg #[.int .i64 P, .int .i64 Q, .int .i64 G], .int .i64 i, .int .i64 (nn : Int), .int .i64 (tt : Int)] w fun e w' => (∃ (vr0 : Value) (lr0 : List DealingD), e = .returned vr0 ∧ (OwnDs w' w.heap.size vr0 lr0 ∧ lr0.length ≤ 3)) ∧ Cur w0 w' g (n + 100000000) ∧ Within g (g + 1) w w' := by
  have HGR := Lib.hid hgr
  have HBB := Lib.hid hb
  have hge := h.ge
  have hgw := h.lt
  clear hgr hb
  obtain ⟨W, hW⟩ : ∃ W, W = w.alloc (.cells #[.int .i64 P, .int .i64 Q, .int .i64 G] 24) := ⟨_, rfl⟩
  have hbW : Below w.heap.size w W := by rw [hW]; (repeat (first | exact Below.refl _ _ | assumption | refine Below.drew ?_ | refine Below.alloc ?_ (by first | (simp; done) | (simp; omega)) _ | refine Below.setCell ?_ (by first | (simp; done) | (simp; omega)) _))
  have HZg : Hid (BoxN W w.heap.size 24 [.int .i64 P, .int .i64 Q, .int .i64 G]) := by unfold Hid; rw [hW]; have h := (BoxN.new w [.int .i64 P, .int .i64 Q, .int .i64 G] 24); simpa using h
  have hsW : W.heap.size = w.heap.size + 1 := by rw [hW]; simp
  have HC := Lib.hid (h.keep hbW)
  have HWw := Lib.hid (Within.of_below hbW : Within g (g + 1) w W)
  have HBW : Hid (Below w0.heap.size w0 W) := HBB.out.trans (hbW.mono HBB.out.size)
  clear h
  go_enter Tryz.func25, Tryz.ntmps25
  go_wp2_with fail
  rw [← hW]
  have HW := Lib.hid (Within.refl g (g + 1) W)
  clear hW hbW
  have hQ1 : -7 ≤ Q := HGR.out.2.1.1
  have hQ2 : Q ≤ 2000000010 := HGR.out.2.1.2
  have z_0_0 := HZg.out.cell (i := 0) rfl
  have z_0_1 := HZg.out.cell (i := 1) rfl
  have z_0_2 := HZg.out.cell (i := 2) rfl
  try (go_wp2_with fail)
  clear z_0_0 z_0_1 z_0_2
  refine (spec_pick w0 g _ 4 _ HC.out (HW.out.belowOf HBW.out hge) (by omega) ).mono ?_
  rintro e u1 ⟨⟨x1, rfl, x1l, x1u, x1m, _⟩, hc, hw⟩
  replace x1m := x1m (by omega)
  obtain ⟨j1, rfl⟩ := Int.eq_ofNat_of_zero_le x1l
  replace x1m : j1 < 4 := by omega
  clear x1l x1u
  have hsz1 := hw.size
  replace HZg := Lib.hid (HZg.out.kept hw (.inr (by omega)))
  replace HW := Lib.hid (HW.out.trans hw)
  replace HC := Lib.hid hc
  clear hc hw
  have z_0_0 := HZg.out.cell (i := 0) rfl
  have z_0_1 := HZg.out.cell (i := 1) rfl
  have z_0_2 := HZg.out.cell (i := 2) rfl
  try (go_wp2_with fail)
  clear z_0_0 z_0_1 z_0_2
  obtain ⟨uE, rfl⟩ : ∃ z, z = u1 := ⟨_, rfl⟩
  have hgE : g < uE.heap.size := HC.out.lt
  have hWE := HW.out.size
  have HGE := Lib.hid HZg.out.lt
  have HC0 := Lib.hid (HC.out.mono (n' := n + 100) (by omega))
  clear HC
  go_loopg [11, 12] j1 (fun gk lv kv wr => ∃ l : List DealingD, kv = .int .i64 (gk : Int) ∧ l.length + gk ≤ 3 ∧ Hid (OwnDs wr uE.heap.size lv l) ∧ Hid (Cur w0 wr g (n + 100 + 10000000 * (l.length : Int))) ∧ Hid (Within g (g + 1) uE wr))
  case atStart => exact ⟨[], rfl, by simp; omega, OwnDs.nil _ _, HC0.out.mono (by simp), Within.refl _ _ _⟩
  case round =>
    clear HC0
    obtain ⟨l, rfl, hlg, HO, HC, HWz⟩ := hrel
    have hsr := HWz.out.size
    have hGE := HGE.out
    replace HZg := Lib.hid (HZg.out.kept HWz.out (.inr (by omega)))
    replace HW := Lib.hid (HW.out.trans HWz.out)
    have hll : (l.length : Int) ≤ 3 := by omega
    by_cases hlt : 0 < gk
    · have hgp : decide ((0 : Int) < (gk : Int)) = true := decide_eq_true (by omega)
      have hgq : decide (0 < gk) = true := decide_eq_true hlt
      go_upto_region 5 with fail
      clear hgp hgq
      go_cut [13, 14] from 21 to 33 (fun v13 v14 wx => ∃ (bz : Nat) (xa : Option Addr) (xn xc : Nat) (ya : Option Addr) (yn yc : Nat) (lx ly : List Int) (ok : Bool), v13 = .pointer (some ⟨bz, 0, none⟩) ∧ v14 = .bool ok ∧ wr.heap.size ≤ bz ∧ Hid (BoxN wx bz 61 [.slice xa xn xc, .slice ya yn yc]) ∧ Hid (OwnD wx wr.heap.size (.slice xa xn xc) (.slice ya yn yc) lx ly) ∧ Hid (lx.length = xn ∧ ly.length = yn ∧ (xn ≤ 7 ∧ yn ≤ 7) ∧ (ok = true → 1 ≤ yn)) ∧ Hid (Cur w0 wx g (n + 100 + 10000000 * (l.length : Int) + 50000)) ∧ Hid (Within g (g + 1) wr wx))
      case first =>
        have HWr := Lib.hid (Within.refl g (g + 1) wr)
        have ewt : IntKind.i64.wrap ((tt : Int) - 1) = ((tt - 1 : Nat) : Int) := by rw [show (tt : Int) - 1 = ((tt - 1 : Nat) : Int) by omega]; exact IntWalk.i64_in _ (by omega)
        have c0 := HZg.out.cell (i := 0) rfl
        have c1 := HZg.out.cell (i := 1) rfl
        have c2 := HZg.out.cell (i := 2) rfl
        refine wp_region_noPanic ?_
        refine wp_region_V (fun w' => w'.cell? ⟨w.heap.size, 0, none⟩ = some (.int .i64 P) ∧ w'.cell? ⟨w.heap.size, 1, none⟩ = some (.int .i64 Q) ∧ w'.cell? ⟨w.heap.size, 2, none⟩ = some (.int .i64 G)) 17 14 (.rd 0 (.rd 1 (.rd 2 (.rd 3 (.rd 4 (.rd 5 (.rd 7 (.alt 6 (.alt 8 (.rd 9 (.rd 10 (.rd 11 (.alt 12 (.alt 13 .done .nil) .nil)))) (.alt 12 (.alt 8 (.rd 9 (.rd 10 (.rd 11 (.alt 13 .done .nil)))) .nil) .nil)) (.alt 12 (.alt 6 (.alt 8 (.rd 9 (.rd 10 (.rd 11 (.alt 13 .done .nil)))) .nil) .nil) .nil))))))))) [14] (by kernel_rfl) (by kernel_rfl) rfl (fun _ _ _ _ _ h => h) ⟨box_at c0 (Below.refl _ _).drew, box_at c1 (Below.refl _ _).drew, box_at c2 (Below.refl _ _).drew⟩ ?_
        simp only [pickV, pickN, List.getElem?_cons_zero, List.getElem?_cons_succ]
        repeat (refine' wpV_read _ (by kernel_rfl) (fun w' hS' => ?_) ?_; rotate_left; (focus ((try dsimp only at hS'); go_simp; (try with_reducible rfl))); (try simp only [Act.put, List.setIfInBounds_toArray, List.set_cons_zero, List.set_cons_succ]))
        have hdr : Below wr.heap.size wr wr.drew := (Below.refl _ _).drew
        have hszd := hdr.size
        replace HZg := Lib.hid (HZg.out.below hdr)
        replace HC := Lib.hid (HC.out.keep hdr)
        replace HW := Lib.hid (HW.out.trans (Within.of_below hdr))
        have HWr : Hid (Within g (g + 1) wr wr.drew) := Within.of_below hdr
        obtain ⟨uR, huR⟩ : ∃ z, z = wr.drew := ⟨_, rfl⟩
        rw [← huR] at hszd HZg HC HW HWr ⊢
        clear hdr huR c0 c1 c2
        have c0 := HZg.out.cell (i := 0) rfl
        have c1 := HZg.out.cell (i := 1) rfl
        have c2 := HZg.out.cell (i := 2) rfl
        refine wpV_or (by kernel_rfl) (fun K hK => ?_) ?_
        · go_simp
          go_at_call 37
          have hC6 := spec_coins w0 g _ P Q G (tt - 1) _ HC.out (HW.out.belowOf HBW.out hge) (by omega) HGR.out (by omega)
          refine hC6.mono ?_
          clear hC6
          rintro e u6 ⟨⟨v6, l6, rfl, ho6, hl6, he6⟩, hc, hw⟩
          obtain ⟨a6, c6, rfl⟩ := ho6.shapeN hl6
          have hs6 := hw.size
          have HI6 := Lib.hid ho6.ints
          replace HZg := Lib.hid (HZg.out.kept hw (.inr (by omega)))
          replace HC := Lib.hid hc
          replace HW := Lib.hid (HW.out.trans hw)
          replace HWr := Lib.hid (HWr.out.trans hw)
          clear hc hw ho6 c0 c1 c2
          have c0 := HZg.out.cell (i := 0) rfl
          have c1 := HZg.out.cell (i := 1) rfl
          have c2 := HZg.out.cell (i := 2) rfl
          refine hK.out _ _ ⟨c0, c1, c2⟩ (fun _ => ?_)
          clear hK K
          (try simp only [Act.put, List.setIfInBounds_toArray, List.set_cons_zero, List.set_cons_succ])
          refine wpV_or (by kernel_rfl) (fun K hK => ?_) ?_
          · go_simp
            go_at_call 36
            refine (spec_ZeroDealing ⟨P, Q, G⟩ i _ l6 (nn : Int) _ HI6.out hi (by omega)).mono ?_
            rintro e u8 ⟨⟨x8, y8, lx, ly, ok, rfl, hod, hlx, hly, hok⟩, hb⟩
            have hs8 := hb.size
            obtain ⟨xa, xc, rfl⟩ := hod.oa.shape
            obtain ⟨ya, yc, rfl⟩ := hod.ob.shape
            obtain ⟨xn, hxn⟩ : ∃ z, lx.length = z := ⟨_, rfl⟩
            obtain ⟨yn, hyn⟩ : ∃ z, ly.length = z := ⟨_, rfl⟩
            rw [hxn] at hod hlx hok
            rw [hyn] at hod hly hok
            rw [hxn, hyn]
            have HXN := Lib.hid hxn
            have HYN := Lib.hid hyn
            have HOK : Hid (ok = true → 1 ≤ yn) := fun h => (hok h).2
            have HOD := Lib.hid (hod.mono (show wr.heap.size ≤ _ by omega))
            replace HZg := Lib.hid (HZg.out.below hb)
            replace HC := Lib.hid (HC.out.keep hb)
            replace HW := Lib.hid (HW.out.trans (Within.of_below hb))
            replace HWr := Lib.hid (HWr.out.trans (Within.of_below hb))
            clear hb hod hxn hyn hok c0 c1 c2
            have c0 := HZg.out.cell (i := 0) rfl
            have c1 := HZg.out.cell (i := 1) rfl
            have c2 := HZg.out.cell (i := 2) rfl
            refine hK.out _ _ ⟨c0, c1, c2⟩ (fun _ => ?_)
            clear hK K
            (try simp only [Act.put, List.setIfInBounds_toArray, List.set_cons_zero, List.set_cons_succ])
            repeat (refine' wpV_read _ (by kernel_rfl) (fun w' hS' => ?_) ?_; rotate_left; (focus ((try dsimp only at hS'); go_simp; (try with_reducible rfl))); (try simp only [Act.put, List.setIfInBounds_toArray, List.set_cons_zero, List.set_cons_succ]))
            refine wpV_do (by kernel_rfl) (fun K hK => ?_)
            go_simp
            obtain ⟨V12, hV12⟩ : ∃ V, V = u8.alloc (.cells #[.slice none 0 0, .slice none 0 0] 61) := ⟨_, rfl⟩
            have hb : Below u8.heap.size u8 V12 := by rw [hV12]; exact (Below.refl _ _).alloc (Nat.le_refl _) _
            have HBX : Hid (BoxN V12 u8.heap.size 61 [.slice none 0 0, .slice none 0 0]) := by unfold Hid; rw [hV12]; exact BoxN.new u8 _ _
            have hs12 := hb.size
            have hwb : wr.heap.size ≤ u8.heap.size := by omega
            replace HZg := Lib.hid (HZg.out.below hb)
            replace HC := Lib.hid (HC.out.keep hb)
            replace HW := Lib.hid (HW.out.trans (Within.of_below hb))
            replace HWr := Lib.hid (HWr.out.trans (Within.of_below hb))
            replace HOD := Lib.hid (HOD.out.below hb)
            clear hb c0 c1 c2
            have c0 := HZg.out.cell (i := 0) rfl
            have c1 := HZg.out.cell (i := 1) rfl
            have c2 := HZg.out.cell (i := 2) rfl
            refine hK.out _ _ (by rw [← hV12]; exact ⟨c0, c1, c2⟩) (fun _ => ?_)
            rw [← hV12]
            clear hV12
            clear hK K
            (try simp only [Act.put, List.setIfInBounds_toArray, List.set_cons_zero, List.set_cons_succ])
            refine wpV_do (by kernel_rfl) (fun K hK => ?_)
            have r0 := HBX.out.cell (i := 0) rfl
            have r1 := HBX.out.cell (i := 1) rfl
            have fr := fun j => HBX.out.frozen j
            have hbl := HBX.out.lt
            clear c0 c1 c2
            obtain ⟨Y, hY⟩ : ∃ Y, Y = (V12.setCell ⟨u8.heap.size, 0, none⟩ (.slice xa xn xc)).setCell ⟨u8.heap.size, 1, none⟩ (.slice ya yn yc) := ⟨_, rfl⟩
            have hYl : Within (u8.heap.size) (u8.heap.size + 1) V12 Y := by rw [hY]; exact ((Within.refl (u8.heap.size) (u8.heap.size + 1) V12).setCell (b := u8.heap.size) (by omega) (by omega) 0 (.slice xa xn xc)).setCell (b := u8.heap.size) (by omega) (by omega) 1 (.slice ya yn yc)
            have NZ : Hid (BoxN Y (u8.heap.size) 61 [.slice xa xn xc, .slice ya yn yc]) := by unfold Hid; rw [hY]; exact (HBX.out.set 0 _).set 1 _
            have NC := Lib.hid ((HC.out.setNew (b := u8.heap.size) (by omega) 0 (.slice xa xn xc)).setNew (b := u8.heap.size) (by omega) 1 (.slice ya yn yc))
            have NW := Lib.hid ((HWr.out.setNew (b := u8.heap.size) (by omega) 0 (.slice xa xn xc)).setNew (b := u8.heap.size) (by omega) 1 (.slice ya yn yc))
            have NO := Lib.hid (HOD.out.outside HBX.out (by decide) hYl)
            have NG := Lib.hid (HZg.out.kept hYl (by omega))
            rw [← hY] at NC NW
            go_simp
            refine hK.out _ _ ?_ (fun _ => ?_)
            · rw [← hY]; exact ⟨NG.out.cell (i := 0) rfl, NG.out.cell (i := 1) rfl, NG.out.cell (i := 2) rfl⟩
            rw [← hY]
            clear hK K fr r0 r1 hY hYl
            (try simp only [Act.put, List.setIfInBounds_toArray, List.set_cons_zero, List.set_cons_succ])
            refine wpV_done ?_
            go_wp2_with fail
            refine NoPanic.normal ?_
            go_wp2_with fail
            go_meet
            exact ⟨u8.heap.size, xa, xn, xc, ya, yn, yc, lx, ly, ok, rfl, rfl, hwb, NZ, NO, ⟨HXN.out, HYN.out, ⟨hlx, hly⟩, HOK.out⟩, NC.out.mono (by omega), NW⟩
          refine wpV_do (by kernel_rfl) (fun K hK => ?_)
          go_simp
          obtain ⟨V12, hV12⟩ : ∃ V, V = u6.alloc (.cells #[.slice none 0 0, .slice none 0 0] 61) := ⟨_, rfl⟩
          have hb : Below u6.heap.size u6 V12 := by rw [hV12]; exact (Below.refl _ _).alloc (Nat.le_refl _) _
          have HBX : Hid (BoxN V12 u6.heap.size 61 [.slice none 0 0, .slice none 0 0]) := by unfold Hid; rw [hV12]; exact BoxN.new u6 _ _
          have hs12 := hb.size
          have hwb : wr.heap.size ≤ u6.heap.size := by omega
          replace HZg := Lib.hid (HZg.out.below hb)
          replace HC := Lib.hid (HC.out.keep hb)
          replace HW := Lib.hid (HW.out.trans (Within.of_below hb))
          replace HWr := Lib.hid (HWr.out.trans (Within.of_below hb))
          replace HI6 := Lib.hid (HI6.out.below hb)
          clear hb c0 c1 c2
          have c0 := HZg.out.cell (i := 0) rfl
          have c1 := HZg.out.cell (i := 1) rfl
          have c2 := HZg.out.cell (i := 2) rfl
          refine hK.out _ _ (by rw [← hV12]; exact ⟨c0, c1, c2⟩) (fun _ => ?_)
          rw [← hV12]
          clear hV12
          clear hK K
          (try simp only [Act.put, List.setIfInBounds_toArray, List.set_cons_zero, List.set_cons_succ])
          refine wpV_do (by kernel_rfl) (fun K hK => ?_)
          go_simp
          go_at_call 36
          refine (spec_ZeroDealing ⟨P, Q, G⟩ i _ l6 (nn : Int) _ HI6.out hi (by omega)).mono ?_
          rintro e u8 ⟨⟨x8, y8, lx, ly, ok, rfl, hod, hlx, hly, hok⟩, hb⟩
          have hs8 := hb.size
          obtain ⟨xa, xc, rfl⟩ := hod.oa.shape
          obtain ⟨ya, yc, rfl⟩ := hod.ob.shape
          obtain ⟨xn, hxn⟩ : ∃ z, lx.length = z := ⟨_, rfl⟩
          obtain ⟨yn, hyn⟩ : ∃ z, ly.length = z := ⟨_, rfl⟩
          rw [hxn] at hod hlx hok
          rw [hyn] at hod hly hok
          rw [hxn, hyn]
          have HXN := Lib.hid hxn
          have HYN := Lib.hid hyn
          have HOK : Hid (ok = true → 1 ≤ yn) := fun h => (hok h).2
          have HOD := Lib.hid (hod.mono (show wr.heap.size ≤ _ by omega))
          replace HZg := Lib.hid (HZg.out.below hb)
          replace HBX := Lib.hid (HBX.out.below hb)
          replace HC := Lib.hid (HC.out.keep hb)
          replace HW := Lib.hid (HW.out.trans (Within.of_below hb))
          replace HWr := Lib.hid (HWr.out.trans (Within.of_below hb))
          clear hb hod hxn hyn hok c0 c1 c2
          have c0 := HZg.out.cell (i := 0) rfl
          have c1 := HZg.out.cell (i := 1) rfl
          have c2 := HZg.out.cell (i := 2) rfl
          refine hK.out _ _ ⟨c0, c1, c2⟩ (fun _ => ?_)
          clear hK K
          (try simp only [Act.put, List.setIfInBounds_toArray, List.set_cons_zero, List.set_cons_succ])
          repeat (refine' wpV_read _ (by kernel_rfl) (fun w' hS' => ?_) ?_; rotate_left; (focus ((try dsimp only at hS'); go_simp; (try with_reducible rfl))); (try simp only [Act.put, List.setIfInBounds_toArray, List.set_cons_zero, List.set_cons_succ]))
          refine wpV_do (by kernel_rfl) (fun K hK => ?_)
          have r0 := HBX.out.cell (i := 0) rfl
          have r1 := HBX.out.cell (i := 1) rfl
          have fr := fun j => HBX.out.frozen j
          have hbl := HBX.out.lt
          clear c0 c1 c2
          obtain ⟨Y, hY⟩ : ∃ Y, Y = (u8.setCell ⟨u6.heap.size, 0, none⟩ (.slice xa xn xc)).setCell ⟨u6.heap.size, 1, none⟩ (.slice ya yn yc) := ⟨_, rfl⟩
          have hYl : Within (u6.heap.size) (u6.heap.size + 1) u8 Y := by rw [hY]; exact ((Within.refl (u6.heap.size) (u6.heap.size + 1) u8).setCell (b := u6.heap.size) (by omega) (by omega) 0 (.slice xa xn xc)).setCell (b := u6.heap.size) (by omega) (by omega) 1 (.slice ya yn yc)
          have NZ : Hid (BoxN Y (u6.heap.size) 61 [.slice xa xn xc, .slice ya yn yc]) := by unfold Hid; rw [hY]; exact (HBX.out.set 0 _).set 1 _
          have NC := Lib.hid ((HC.out.setNew (b := u6.heap.size) (by omega) 0 (.slice xa xn xc)).setNew (b := u6.heap.size) (by omega) 1 (.slice ya yn yc))
          have NW := Lib.hid ((HWr.out.setNew (b := u6.heap.size) (by omega) 0 (.slice xa xn xc)).setNew (b := u6.heap.size) (by omega) 1 (.slice ya yn yc))
          have NO := Lib.hid (HOD.out.outside HBX.out (by decide) hYl)
          have NG := Lib.hid (HZg.out.kept hYl (by omega))
          rw [← hY] at NC NW
          go_simp
          refine hK.out _ _ ?_ (fun _ => ?_)
          · rw [← hY]; exact ⟨NG.out.cell (i := 0) rfl, NG.out.cell (i := 1) rfl, NG.out.cell (i := 2) rfl⟩
          rw [← hY]
          clear hK K fr r0 r1 hY hYl
          (try simp only [Act.put, List.setIfInBounds_toArray, List.set_cons_zero, List.set_cons_succ])
          refine wpV_done ?_
          go_wp2_with fail
          refine NoPanic.normal ?_
          go_wp2_with fail
          go_meet
          exact ⟨u6.heap.size, xa, xn, xc, ya, yn, yc, lx, ly, ok, rfl, rfl, hwb, NZ, NO, ⟨HXN.out, HYN.out, ⟨hlx, hly⟩, HOK.out⟩, NC.out.mono (by omega), NW⟩
        refine wpV_do (by kernel_rfl) (fun K hK => ?_)
        go_simp
        obtain ⟨V12, hV12⟩ : ∃ V, V = uR.alloc (.cells #[.slice none 0 0, .slice none 0 0] 61) := ⟨_, rfl⟩
        have hb : Below uR.heap.size uR V12 := by rw [hV12]; exact (Below.refl _ _).alloc (Nat.le_refl _) _
        have HBX : Hid (BoxN V12 uR.heap.size 61 [.slice none 0 0, .slice none 0 0]) := by unfold Hid; rw [hV12]; exact BoxN.new uR _ _
        have hs12 := hb.size
        have hwb : wr.heap.size ≤ uR.heap.size := by omega
        replace HZg := Lib.hid (HZg.out.below hb)
        replace HC := Lib.hid (HC.out.keep hb)
        replace HW := Lib.hid (HW.out.trans (Within.of_below hb))
        replace HWr := Lib.hid (HWr.out.trans (Within.of_below hb))
        clear hb c0 c1 c2
        have c0 := HZg.out.cell (i := 0) rfl
        have c1 := HZg.out.cell (i := 1) rfl
        have c2 := HZg.out.cell (i := 2) rfl
        refine hK.out _ _ (by rw [← hV12]; exact ⟨c0, c1, c2⟩) (fun _ => ?_)
        rw [← hV12]
        clear hV12
        clear hK K
        (try simp only [Act.put, List.setIfInBounds_toArray, List.set_cons_zero, List.set_cons_succ])
        refine wpV_do (by kernel_rfl) (fun K hK => ?_)
        go_simp
        go_at_call 37
        have hC6 := spec_coins w0 g _ P Q G (tt - 1) _ HC.out (HW.out.belowOf HBW.out hge) (by omega) HGR.out (by omega)
        refine hC6.mono ?_
        clear hC6
        rintro e u6 ⟨⟨v6, l6, rfl, ho6, hl6, he6⟩, hc, hw⟩
        obtain ⟨a6, c6, rfl⟩ := ho6.shapeN hl6
        have hs6 := hw.size
        have HI6 := Lib.hid ho6.ints
        replace HZg := Lib.hid (HZg.out.kept hw (.inr (by omega)))
        replace HBX := Lib.hid (HBX.out.kept hw (.inr (by omega)))
        replace HC := Lib.hid hc
        replace HW := Lib.hid (HW.out.trans hw)
        replace HWr := Lib.hid (HWr.out.trans hw)
        clear hc hw ho6 c0 c1 c2
        have c0 := HZg.out.cell (i := 0) rfl
        have c1 := HZg.out.cell (i := 1) rfl
        have c2 := HZg.out.cell (i := 2) rfl
        refine hK.out _ _ ⟨c0, c1, c2⟩ (fun _ => ?_)
        clear hK K
        (try simp only [Act.put, List.setIfInBounds_toArray, List.set_cons_zero, List.set_cons_succ])
        refine wpV_do (by kernel_rfl) (fun K hK => ?_)
        go_simp
        go_at_call 36
        refine (spec_ZeroDealing ⟨P, Q, G⟩ i _ l6 (nn : Int) _ HI6.out hi (by omega)).mono ?_
        rintro e u8 ⟨⟨x8, y8, lx, ly, ok, rfl, hod, hlx, hly, hok⟩, hb⟩
        have hs8 := hb.size
        obtain ⟨xa, xc, rfl⟩ := hod.oa.shape
        obtain ⟨ya, yc, rfl⟩ := hod.ob.shape
        obtain ⟨xn, hxn⟩ : ∃ z, lx.length = z := ⟨_, rfl⟩
        obtain ⟨yn, hyn⟩ : ∃ z, ly.length = z := ⟨_, rfl⟩
        rw [hxn] at hod hlx hok
        rw [hyn] at hod hly hok
        rw [hxn, hyn]
        have HXN := Lib.hid hxn
        have HYN := Lib.hid hyn
        have HOK : Hid (ok = true → 1 ≤ yn) := fun h => (hok h).2
        have HOD := Lib.hid (hod.mono (show wr.heap.size ≤ _ by omega))
        replace HZg := Lib.hid (HZg.out.below hb)
        replace HBX := Lib.hid (HBX.out.below hb)
        replace HC := Lib.hid (HC.out.keep hb)
        replace HW := Lib.hid (HW.out.trans (Within.of_below hb))
        replace HWr := Lib.hid (HWr.out.trans (Within.of_below hb))
        clear hb hod hxn hyn hok c0 c1 c2
        have c0 := HZg.out.cell (i := 0) rfl
        have c1 := HZg.out.cell (i := 1) rfl
        have c2 := HZg.out.cell (i := 2) rfl
        refine hK.out _ _ ⟨c0, c1, c2⟩ (fun _ => ?_)
        clear hK K
        (try simp only [Act.put, List.setIfInBounds_toArray, List.set_cons_zero, List.set_cons_succ])
        repeat (refine' wpV_read _ (by kernel_rfl) (fun w' hS' => ?_) ?_; rotate_left; (focus ((try dsimp only at hS'); go_simp; (try with_reducible rfl))); (try simp only [Act.put, List.setIfInBounds_toArray, List.set_cons_zero, List.set_cons_succ]))
        refine wpV_do (by kernel_rfl) (fun K hK => ?_)
        have r0 := HBX.out.cell (i := 0) rfl
        have r1 := HBX.out.cell (i := 1) rfl
        have fr := fun j => HBX.out.frozen j
        have hbl := HBX.out.lt
        clear c0 c1 c2
        obtain ⟨Y, hY⟩ : ∃ Y, Y = (u8.setCell ⟨uR.heap.size, 0, none⟩ (.slice xa xn xc)).setCell ⟨uR.heap.size, 1, none⟩ (.slice ya yn yc) := ⟨_, rfl⟩
        have hYl : Within (uR.heap.size) (uR.heap.size + 1) u8 Y := by rw [hY]; exact ((Within.refl (uR.heap.size) (uR.heap.size + 1) u8).setCell (b := uR.heap.size) (by omega) (by omega) 0 (.slice xa xn xc)).setCell (b := uR.heap.size) (by omega) (by omega) 1 (.slice ya yn yc)
        have NZ : Hid (BoxN Y (uR.heap.size) 61 [.slice xa xn xc, .slice ya yn yc]) := by unfold Hid; rw [hY]; exact (HBX.out.set 0 _).set 1 _
        have NC := Lib.hid ((HC.out.setNew (b := uR.heap.size) (by omega) 0 (.slice xa xn xc)).setNew (b := uR.heap.size) (by omega) 1 (.slice ya yn yc))
        have NW := Lib.hid ((HWr.out.setNew (b := uR.heap.size) (by omega) 0 (.slice xa xn xc)).setNew (b := uR.heap.size) (by omega) 1 (.slice ya yn yc))
        have NO := Lib.hid (HOD.out.outside HBX.out (by decide) hYl)
        have NG := Lib.hid (HZg.out.kept hYl (by omega))
        rw [← hY] at NC NW
        go_simp
        refine hK.out _ _ ?_ (fun _ => ?_)
        · rw [← hY]; exact ⟨NG.out.cell (i := 0) rfl, NG.out.cell (i := 1) rfl, NG.out.cell (i := 2) rfl⟩
        rw [← hY]
        clear hK K fr r0 r1 hY hYl
        (try simp only [Act.put, List.setIfInBounds_toArray, List.set_cons_zero, List.set_cons_succ])
        refine wpV_done ?_
        go_wp2_with fail
        refine NoPanic.normal ?_
        go_wp2_with fail
        go_meet
        exact ⟨uR.heap.size, xa, xn, xc, ya, yn, yc, lx, ly, ok, rfl, rfl, hwb, NZ, NO, ⟨HXN.out, HYN.out, ⟨hlx, hly⟩, HOK.out⟩, NC.out.mono (by omega), NW⟩

      case rest =>
        obtain ⟨bz, xa, xn, xc, ya, yn, yc, lx, ly, ok, rfl, rfl, hwb, HBX, HOD, HF, HC, HWr⟩ := hcut
        obtain ⟨hxn, hyn, ⟨hx7, hy7⟩, hok⟩ := HF.out
        have HXN := Lib.hid hxn
        have HYN := Lib.hid hyn
        clear hxn hyn HF
        have hsc := HWr.out.size
        have HW0 := HW
        have HGw := HZg
        replace HZg := Lib.hid (HZg.out.kept HWr.out (.inr (by omega)))
        replace HW := Lib.hid (HW.out.trans HWr.out)
        go_step
        go_step
        go_cut [] from 33 to 41 (fun wx => ∃ (xa : Option Addr) (xn xc : Nat) (ya : Option Addr) (yn yc : Nat) (lx ly : List Int), Hid (BoxN wx bz 61 [.slice xa xn xc, .slice ya yn yc]) ∧ Hid (OwnD wx wr.heap.size (.slice xa xn xc) (.slice ya yn yc) lx ly) ∧ Hid (lx.length = xn ∧ ly.length = yn ∧ (xn ≤ 7 ∧ yn ≤ 7) ∧ 1 ≤ yn) ∧ Hid (Cur w0 wx g (n + 100 + 10000000 * (l.length : Int) + 500000)) ∧ Hid (Within g (g + 1) wr wx))
        case first =>
          cases ok with
          | false =>
            have c0 := HZg.out.cell (i := 0) rfl
            have c1 := HZg.out.cell (i := 1) rfl
            have c2 := HZg.out.cell (i := 2) rfl

            go_wp2_with fail
            refine (spec_dealing w0 g _ P Q G _ HC.out (HW.out.belowOf HBW.out hge) (by omega) HGR.out).mono ?_
            rintro e u5 ⟨⟨xv, yv, lx, ly, rfl, hod, ⟨hx1, hx7⟩, ⟨hy1, hy7⟩⟩, hc, hw⟩
            have hs5 := hw.size
            obtain ⟨xa, xc, rfl⟩ := hod.oa.shape
            obtain ⟨ya, yc, rfl⟩ := hod.ob.shape
            obtain ⟨xn, hxn⟩ : ∃ z, lx.length = z := ⟨_, rfl⟩
            obtain ⟨yn, hyn⟩ : ∃ z, ly.length = z := ⟨_, rfl⟩
            rw [hxn] at hod hx7
            rw [hyn] at hod hy1 hy7
            rw [hxn, hyn]
            have HOD := Lib.hid (hod.mono (show wr.heap.size ≤ _ by have := HWr.out.size; omega))
            replace HBX := Lib.hid (HBX.out.kept hw (.inr (by omega)))
            replace HC := Lib.hid hc
            replace HW := Lib.hid (HW.out.trans hw)
            replace HWr := Lib.hid (HWr.out.trans hw)
            clear hc hw hod
            have r0 := HBX.out.cell (i := 0) rfl
            have r1 := HBX.out.cell (i := 1) rfl
            have fr := fun j => HBX.out.frozen j
            have hbl := HBX.out.lt
            clear c0 c1 c2
            go_wp2_with fail
            clear r0 r1 fr
            obtain ⟨Y, hY⟩ : ∃ Y, Y = (u5.setCell ⟨bz, 0, none⟩ (.slice xa xn xc)).setCell ⟨bz, 1, none⟩ (.slice ya yn yc) := ⟨_, rfl⟩
            have hYl : Within bz (bz + 1) u5 Y := by rw [hY]; exact ((Within.refl bz (bz + 1) u5).setCell (b := bz) (by omega) (by omega) 0 (.slice xa xn xc)).setCell (b := bz) (by omega) (by omega) 1 (.slice ya yn yc)
            have NZ : Hid (BoxN Y bz 61 [.slice xa xn xc, .slice ya yn yc]) := by unfold Hid; rw [hY]; exact (HBX.out.set 0 _).set 1 _
            have NC := Lib.hid ((HC.out.setNew (b := bz) (by omega) 0 (.slice xa xn xc)).setNew (b := bz) (by omega) 1 (.slice ya yn yc))
            have NW := Lib.hid ((HWr.out.setNew (b := bz) (by omega) 0 (.slice xa xn xc)).setNew (b := bz) (by omega) 1 (.slice ya yn yc))
            have NO := Lib.hid (HOD.out.outside HBX.out (by decide) hYl)
            rw [← hY] at NC NW ⊢
            clear hY hYl
            go_meet
            exact ⟨xa, xn, xc, ya, yn, yc, lx, ly, NZ, NO, ⟨hxn, hyn, ⟨hx7, hy7⟩, hy1⟩, NC.out.mono (by omega), NW⟩

          | true =>
            have hy1 := hok rfl
            go_wp2_with fail
            refine (spec_one w0 g _ 6 _ HC.out (HW.out.belowOf HBW.out hge) (by omega)).mono ?_
            rintro e w6 ⟨⟨b6, rfl⟩, hc, hw⟩
            have hs6 := hw.size
            replace HZg := Lib.hid (HZg.out.kept hw (.inr (by omega)))
            replace HBX := Lib.hid (HBX.out.kept hw (.inr (by omega)))
            replace HOD := Lib.hid (HOD.out.within hw (by omega))
            replace HC := Lib.hid hc
            replace HW := Lib.hid (HW.out.trans hw)
            replace HWr := Lib.hid (HWr.out.trans hw)
            clear hc hw
            cases b6 with
            | false =>
              go_wp2_with fail
              go_meet
              exact ⟨xa, xn, xc, ya, yn, yc, lx, ly, HBX, HOD, ⟨HXN.out, HYN.out, ⟨hx7, hy7⟩, hy1⟩, HC.out.mono (by omega), HWr⟩
            | true =>
              have c0 := HZg.out.cell (i := 0) rfl
              have c1 := HZg.out.cell (i := 1) rfl
              have c2 := HZg.out.cell (i := 2) rfl

              go_wp2_with fail
              refine (spec_dealing w0 g _ P Q G _ HC.out (HW.out.belowOf HBW.out hge) (by omega) HGR.out).mono ?_
              rintro e u5 ⟨⟨xv, yv, lx, ly, rfl, hod, ⟨hx1, hx7⟩, ⟨hy1, hy7⟩⟩, hc, hw⟩
              have hs5 := hw.size
              obtain ⟨xa, xc, rfl⟩ := hod.oa.shape
              obtain ⟨ya, yc, rfl⟩ := hod.ob.shape
              obtain ⟨xn, hxn⟩ : ∃ z, lx.length = z := ⟨_, rfl⟩
              obtain ⟨yn, hyn⟩ : ∃ z, ly.length = z := ⟨_, rfl⟩
              rw [hxn] at hod hx7
              rw [hyn] at hod hy1 hy7
              rw [hxn, hyn]
              have HOD := Lib.hid (hod.mono (show wr.heap.size ≤ _ by have := HWr.out.size; omega))
              replace HBX := Lib.hid (HBX.out.kept hw (.inr (by omega)))
              replace HC := Lib.hid hc
              replace HW := Lib.hid (HW.out.trans hw)
              replace HWr := Lib.hid (HWr.out.trans hw)
              clear hc hw hod
              have r0 := HBX.out.cell (i := 0) rfl
              have r1 := HBX.out.cell (i := 1) rfl
              have fr := fun j => HBX.out.frozen j
              have hbl := HBX.out.lt
              clear c0 c1 c2
              go_wp2_with fail
              clear r0 r1 fr
              obtain ⟨Y, hY⟩ : ∃ Y, Y = (u5.setCell ⟨bz, 0, none⟩ (.slice xa xn xc)).setCell ⟨bz, 1, none⟩ (.slice ya yn yc) := ⟨_, rfl⟩
              have hYl : Within bz (bz + 1) u5 Y := by rw [hY]; exact ((Within.refl bz (bz + 1) u5).setCell (b := bz) (by omega) (by omega) 0 (.slice xa xn xc)).setCell (b := bz) (by omega) (by omega) 1 (.slice ya yn yc)
              have NZ : Hid (BoxN Y bz 61 [.slice xa xn xc, .slice ya yn yc]) := by unfold Hid; rw [hY]; exact (HBX.out.set 0 _).set 1 _
              have NC := Lib.hid ((HC.out.setNew (b := bz) (by omega) 0 (.slice xa xn xc)).setNew (b := bz) (by omega) 1 (.slice ya yn yc))
              have NW := Lib.hid ((HWr.out.setNew (b := bz) (by omega) 0 (.slice xa xn xc)).setNew (b := bz) (by omega) 1 (.slice ya yn yc))
              have NO := Lib.hid (HOD.out.outside HBX.out (by decide) hYl)
              rw [← hY] at NC NW ⊢
              clear hY hYl
              go_meet
              exact ⟨xa, xn, xc, ya, yn, yc, lx, ly, NZ, NO, ⟨hxn, hyn, ⟨hx7, hy7⟩, hy1⟩, NC.out.mono (by omega), NW⟩

        case rest =>
          clear HBX HOD HXN HYN hx7 hy7 hok
          obtain ⟨xa, xn, xc, ya, yn, yc, lx, ly, HBX, HOD, HF, HC, HWq⟩ := hcut
          replace HZg := Lib.hid (HGw.out.kept (HWq.out : Within g (g + 1) wr _) (.inr (by omega)))
          replace HW := Lib.hid (HW0.out.trans HWq.out)
          have hwz := hwb
          obtain ⟨hxn, hyn, ⟨hx7, hy7⟩, hy1⟩ := HF.out
          have HXN := Lib.hid hxn
          have HYN := Lib.hid hyn
          clear hxn hyn HF
          have hsq := HWq.out.size
          clear HWr
          have HWr := HWq
          clear HWq
          go_wp2_with fail
          refine (spec_one w0 g _ 6 _ HC.out (HW.out.belowOf HBW.out hge) (by omega)).mono ?_
          rintro e w7 ⟨⟨b7, rfl⟩, hc, hw⟩
          have hs7 := hw.size
          replace HZg := Lib.hid (HZg.out.kept hw (.inr (by omega)))
          replace HBX := Lib.hid (HBX.out.kept hw (.inr (by omega)))
          replace HOD := Lib.hid (HOD.out.within hw (by omega))
          replace HC := Lib.hid hc
          replace HW := Lib.hid (HW.out.trans hw)
          replace HWr := Lib.hid (HWr.out.trans hw)
          clear hc hw
          cases b7 with
          | false =>
            have HO9 := Lib.hid (HO.out.within HWr.out (by omega))
            have HOD9 := Lib.hid (HOD.out.mono (show uE.heap.size ≤ wr.heap.size by omega))
            have z0 := HBX.out.cell (i := 0) rfl
            have z1 := HBX.out.cell (i := 1) rfl
            have hbl := HBX.out.lt
            have hszw := HWr.out.size
            go_wp2_with (at_builtin; refine wpList_append_Ds rfl _ _ rfl rfl rfl (b := w7.heap.size) (d := ⟨lx, ly⟩) (HO9.out.below ((Below.refl _ _).alloc (Nat.le_refl _) _)) (HOD9.out.oa.below ((Below.refl _ _).alloc (Nat.le_refl _) _)) (HOD9.out.ob.below ((Below.refl _ _).alloc (Nat.le_refl _) _)) (BoxN.new w7 _ _) (by simp; omega) (by omega) ?_; intro v9 w9 hown9 hb9)
            have hb9' : Below uE.heap.size w7 w9 := ((Below.refl _ _).alloc (by omega) _).trans hb9
            clear hb9
            have hdl : l.length + 1 + (gk - 1) ≤ 3 := by omega
            go_roundg (gk - 1)
            case measure => omega
            case rel => exact ⟨l ++ [⟨lx, ly⟩], by first | rfl | (congr 1; omega), by rw [List.length_append]; exact hdl, Lib.hid hown9, Lib.hid ((HC.out.belowB hb9' (by omega)).mono (by rw [List.length_append]; simp only [List.length_cons, List.length_nil]; omega)), Lib.hid ((HWz.out.trans HWr.out).belowStep hb9')⟩

          | true =>
            go_wp2_with fail
            obtain ⟨rr, e, hrr, hlr, hrx⟩ := HOD.out.ob.at_ (by have := HYN.out; omega)
            cases e
            have hrlt := HOD.out.ob.lt rr rfl
            obtain ⟨hrlt1, hrlt2⟩ := hrlt
            clear hrx hlr hrr
            have HB7 := Lib.hid (HW.out.size)
            have z_0_0 := HZg.out.cell (i := 0) rfl
            have z_0_1 := HZg.out.cell (i := 1) rfl
            have z_0_2 := HZg.out.cell (i := 2) rfl
            have z_1_0 := HBX.out.cell (i := 0) rfl
            have z_1_1 := HBX.out.cell (i := 1) rfl
            try (go_wp2_with fail)
            refine wp_region_noPanic ?_
            refine wp_region_Q (Within g (g + 1)) (DrawS w0 w7 g _ 100000 (fun w' => w'.cell? ⟨w.heap.size, 0, none⟩ = some (.int .i64 P) ∧ w'.cell? ⟨w.heap.size, 1, none⟩ = some (.int .i64 Q) ∧ w'.cell? ⟨w.heap.size, 2, none⟩ = some (.int .i64 G) ∧ w'.cell? ⟨bz, 0, none⟩ = some (.slice xa xn xc) ∧ w'.cell? ⟨bz, 1, none⟩ = some (.slice (some ⟨rr, 0, none⟩) yn yc))) 14 [(0, []), (1, [0]), (2, []), (3, []), (4, [0]), (5, [0]), (6, [3, 0]), (7, []), (8, []), (9, [1, 0]), (10, [8, 3])] [11] (by kernel_rfl) (by kernel_rfl) (by kernel_rfl) rfl (fun _ _ _ _ h => h) (DrawS.good _ _ _ _ _ _) ⟨(Within.refl _ _ _).drew, by simpa using HC.out.keep (Below.refl _ _).drew, ⟨box_at z_0_0 (Below.refl _ _).drew, box_at z_0_1 (Below.refl _ _).drew, box_at z_0_2 (Below.refl _ _).drew, box_at z_1_0 (Below.refl _ _).drew, box_at z_1_1 (Below.refl _ _).drew⟩⟩ ?_
            simp only [pickP, pickN, List.getElem?_cons_zero, List.getElem?_cons_succ]
            iterate 6 (refine' chainQ_read (DrawS.good _ _ _ _ _ _) _ rfl rfl (fun m w' hm' hS' => ?_) ?_; rotate_left; · (simp only [lookP, allP, Act.put, List.getElem?_cons_zero, List.getElem?_cons_succ, List.setIfInBounds_toArray, List.set_cons_zero, List.set_cons_succ]; (try dsimp only [DrawS] at hS'); go_simp; (try with_reducible rfl)))
            -- 6: call { callee := value (func 22), args := #[t46, t49], argTypes := #[50, 3] }
            refine chainQ_do (d := (some 50)) (fun v u => ∃ j : Nat, v = .int .i64 (j : Int) ∧ j < yn) (fun v w1 w2 hw h => h) rfl rfl (fun m w' hm' hS' => ?_) ?_
            · simp only [lookP, allP, Act.put, List.getElem?_cons_zero, List.getElem?_cons_succ, List.setIfInBounds_toArray, List.set_cons_zero, List.set_cons_succ]
              intro K hK
              replace hm' : m < 11 := hm'
              go_simp
              go_at_call 22
              refine (spec_pick w0 g _ (yn : Int) _ hS'.2.1 (hS'.1.belowOf (HW.out.belowOf HBW.out hge) hge) (by omega)).mono ?_
              rintro e u ⟨⟨x, rfl, x0, _, xm, _⟩, hc, hw⟩
              obtain ⟨j, rfl⟩ := Int.eq_ofNat_of_zero_le x0
              replace xm := xm (by omega)
              exact hK.out _ _ hw ⟨hS'.1.trans hw, hc.mono (by omega), ⟨within_at (hS'.1.trans hw) z_0_0 (.inr (by omega)), within_at (hS'.1.trans hw) z_0_1 (.inr (by omega)), within_at (hS'.1.trans hw) z_0_2 (.inr (by omega)), within_at (hS'.1.trans hw) z_1_0 (.inr (by omega)), within_at (hS'.1.trans hw) z_1_1 (.inr (by omega))⟩⟩ ⟨j, rfl, by omega⟩
            iterate 2 (refine' chainQ_read (DrawS.good _ _ _ _ _ _) _ rfl rfl (fun m w' hm' hS' => ?_) ?_; rotate_left; · (simp only [lookP, allP, Act.put, List.getElem?_cons_zero, List.getElem?_cons_succ, List.setIfInBounds_toArray, List.set_cons_zero, List.set_cons_succ]; (try dsimp only [DrawS] at hS'); go_simp; (try with_reducible rfl)))
            -- 9: call { callee := value (func 77), args := #[t51, t52], argTypes := #[50, 24] }
            refine chainQ_do (d := (some 53)) (fun v u => ∃ (xq9 : Int), v = (.int .i64 xq9) ∧ (-10 ≤ xq9 ∧ xq9 ≤ 2000000010)) (fun v w1 w2 hw h => h) rfl rfl (fun m w' hm' hS' => ?_) ?_
            · simp only [lookP, allP, Act.put, List.getElem?_cons_zero, List.getElem?_cons_succ, List.setIfInBounds_toArray, List.set_cons_zero, List.set_cons_succ]
              intro K hK
              replace hm' : m < 11 := hm'
              go_simp
              go_at_call 77
              refine (spec_expo w0 g _ P Q G _ hS'.2.1 (hS'.1.belowOf (HW.out.belowOf HBW.out hge) hge) (by omega) HGR.out).mono ?_
              rintro e u ⟨⟨xq9, rfl, xq9l, xq9u⟩, hc, hw⟩
              exact hK.out _ _ hw ⟨hS'.1.trans hw, hc.mono (by omega), ⟨within_at (hS'.1.trans hw) z_0_0 (.inr (by omega)), within_at (hS'.1.trans hw) z_0_1 (.inr (by omega)), within_at (hS'.1.trans hw) z_0_2 (.inr (by omega)), within_at (hS'.1.trans hw) z_1_0 (.inr (by omega)), within_at (hS'.1.trans hw) z_1_1 (.inr (by omega))⟩⟩ ⟨xq9, rfl, ⟨by omega, xq9u⟩⟩
            -- 10: indexAddr 25 t45 t50
            refine chainQ_have (DrawS.good _ _ _ _ _ _) (d := (some 54)) (fun v u => ∃ y : Nat, v = .pointer (some ⟨rr, y, none⟩) ∧ y < yn) (fun v w1 w2 hw h => h) rfl rfl (fun m w' hm' hS' => ?_) ?_
            · simp only [lookP, allP, Act.put, List.getElem?_cons_zero, List.getElem?_cons_succ, List.setIfInBounds_toArray, List.set_cons_zero, List.set_cons_succ]
              intro x6 hx6
              obtain ⟨y, rfl, yl⟩ := hx6
              have yz : (0 : Int) ≤ (y : Int) := by omega
              have yn_ : (y : Int) < (yn : Int) := by omega
              refine ⟨.pointer (some ⟨rr, y, none⟩), ?_, y, rfl, yl⟩
              go_simp
            refine chainQ_nil (fun u1 hS' => ?_)
            simp only [allP, Act.put, List.setIfInBounds_toArray, List.set_cons_zero, List.set_cons_succ]
            intro x10 hx10
            intro x9 hx9
            intro x6 hx6
            replace hS' : DrawS w0 w7 g _ 100000 _ 11 u1 := hS'
            obtain ⟨hw, hc, hC⟩ := hS'
            obtain ⟨xq9, rfl, xq9l, xq9u⟩ := hx9
            have hsz1 := hw.size
            replace HZg := Lib.hid (HZg.out.kept hw (.inr (by omega)))
            replace HBX := Lib.hid (HBX.out.kept hw (.inr (by omega)))
            replace HW := Lib.hid (HW.out.trans hw)
            replace HWr := Lib.hid (HWr.out.trans hw)
            replace HOD := Lib.hid (HOD.out.within hw (by omega))
            replace HC := Lib.hid hc
            clear hc hw hC
            clear z_0_0 z_0_1 z_0_2 z_1_0 z_1_1
            obtain ⟨jj, rfl, jlt⟩ := hx10
            have hvi : I64 xq9 := ⟨by omega, by omega⟩
            clear hx6
            obtain ⟨_, e, _, hlr, hrx⟩ := HOD.out.ob.at_ (by have := HYN.out; omega)
            cases e
            obtain ⟨r0, f0⟩ := hrx jj jlt
            clear hrx hlr
            have ap1 := HOD.out.ob.apart HBX.out (by decide) rr rfl
            have ap2 := HOD.out.ob.apart HZg.out (by decide) rr rfl
            go_wp2_with fail
            refine NoPanic.normal ?_
            obtain ⟨Y9, hY⟩ : ∃ Y, Y = u1.setCell ⟨rr, jj, none⟩ (.int .i64 xq9) := ⟨_, rfl⟩
            have hYl : Within rr (rr + 1) u1 Y9 := by rw [hY]; exact (Within.refl rr (rr + 1) u1).setCell (b := rr) (by omega) (by omega) jj (.int .i64 xq9)
            have hszY := hYl.size
            have NO := Lib.hid (HOD.out.storeB HYN.out jj hvi)
            have NC := Lib.hid (HC.out.setNew (b := rr) (by omega) jj (.int .i64 xq9))
            have NW := Lib.hid (HW.out.setNew (b := rr) (by omega) jj (.int .i64 xq9))
            have NR := Lib.hid (HWr.out.setNew (b := rr) (by omega) jj (.int .i64 xq9))
            rw [← hY] at NO NC NW NR ⊢
            clear hY r0 f0
            replace HZg := Lib.hid (HZg.out.kept hYl (by omega))
            replace HBX := Lib.hid (HBX.out.kept hYl (by omega))
            replace HOD := NO
            replace HC := NC
            replace HW := NW
            replace HWr := NR
            replace HYN : Hid ((ly.set jj xq9).length = yn) := by unfold Hid; rw [List.length_set]; exact HYN.out
            clear NO NC NW NR
            obtain ⟨lz, hlz⟩ : ∃ z, z = ly.set jj xq9 := ⟨_, rfl⟩
            rw [← hlz] at HOD HYN
            clear hlz

            have HO9 := Lib.hid (HO.out.within HWr.out (by omega))
            have HOD9 := Lib.hid (HOD.out.mono (show uE.heap.size ≤ wr.heap.size by omega))
            have z0 := HBX.out.cell (i := 0) rfl
            have z1 := HBX.out.cell (i := 1) rfl
            have hbl := HBX.out.lt
            have hszw := HWr.out.size
            go_wp2_with (at_builtin; refine wpList_append_Ds rfl _ _ rfl rfl rfl (b := Y9.heap.size) (d := ⟨lx, lz⟩) (HO9.out.below ((Below.refl _ _).alloc (Nat.le_refl _) _)) (HOD9.out.oa.below ((Below.refl _ _).alloc (Nat.le_refl _) _)) (HOD9.out.ob.below ((Below.refl _ _).alloc (Nat.le_refl _) _)) (BoxN.new Y9 _ _) (by simp; omega) (by omega) ?_; intro v9 w9 hown9 hb9)
            have hb9' : Below uE.heap.size Y9 w9 := ((Below.refl _ _).alloc (by omega) _).trans hb9
            clear hb9
            have hdl : l.length + 1 + (gk - 1) ≤ 3 := by omega
            go_roundg (gk - 1)
            case measure => omega
            case rel => exact ⟨l ++ [⟨lx, lz⟩], by first | rfl | (congr 1; omega), by rw [List.length_append]; exact hdl, Lib.hid hown9, Lib.hid ((HC.out.belowB hb9' (by omega)).mono (by rw [List.length_append]; simp only [List.length_cons, List.length_nil]; omega)), Lib.hid ((HWz.out.trans HWr.out).belowStep hb9')⟩

    · obtain rfl : gk = 0 := by omega
      go_wp2_with fail
      refine bodyPost_ret (v := u11) (by simp [results, Tryz.results25, go_sem]) rfl ⟨⟨_, l, rfl, HO.out.mono (by omega), by omega⟩, HC.out.mono (by omega), HWw.out.trans HW.out⟩
end Go.Proofs.YtacpnphfopmofaaGreat
