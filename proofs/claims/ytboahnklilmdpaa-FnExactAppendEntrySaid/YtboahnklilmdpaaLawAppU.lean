/- The walks of laws, by program (genlaw5.py). -/
import Derived.Test.YtboahnklilmdpaaABoardU
import Derived.Test.YtboahnklilmdpaaSign3U
import Derived.Deep.Cut
namespace Go.Proofs.Ytboahnklilmdpaa
open Go.RowKit
set_option linter.unusedSimpArgs false
set_option linter.unusedVariables false

set_option maxRecDepth 100000 in
set_option maxHeartbeats 2000000 in
theorem law_AppendEntry (gr : GroupD) (bd : Value) (lbd : BoardD) (en : Value) (len : EntryD) (w : World) (_hgr : I64 gr.g) (hbd : (kS rBoard).rd w bd lbd) (hen : (kS rEntry).rd w en len) :
    Calls Try.prog 3 #[.agg #[.int .i64 gr.p, .int .i64 gr.q, .int .i64 gr.g], bd, en] w fun e w' => e = .returned (.bool true) ∧ Below w.heap.size w w' := by
  have Jgr := Lib.hid _hgr; clear _hgr
  obtain ⟨bd_a0, bd_n0, bd_c0, bd_a1, bd_n1, bd_c1, rfl, hrestbd⟩ := rdBoard.1 hbd
  have hbd : (kS rBoard).rd w (.agg #[.slice bd_a0 bd_n0 bd_c0, .slice bd_a1 bd_n1 bd_c1]) lbd := rdBoard.2 ⟨_, _, _, _, _, _, rfl, hrestbd⟩
  clear hrestbd
  obtain ⟨en_a2, en_n2, en_c2, en_a3, en_n3, en_c3, en_a4, en_n4, en_c4, en_a5, en_n5, en_c5, rfl, hresten⟩ := rdEntry.1 hen
  have hen : (kS rEntry).rd w (.agg #[.int .i64 len.kind, .int .i64 len.author, .slice en_a2 en_n2 en_c2, .slice en_a3 en_n3 en_c3, .slice en_a4 en_n4 en_c4, .slice en_a5 en_n5 en_c5]) len := rdEntry.2 ⟨_, _, _, _, _, _, _, _, _, _, _, _, rfl, hresten⟩
  clear hresten
  obtain ⟨W, hW⟩ : ∃ W, W = ((w.alloc (.cells #[.int .i64 gr.p, .int .i64 gr.q, .int .i64 gr.g] 23)).alloc (.cells #[.slice bd_a0 bd_n0 bd_c0, .slice bd_a1 bd_n1 bd_c1] 27)).alloc (.cells #[.int .i64 len.kind, .int .i64 len.author, .slice en_a2 en_n2 en_c2, .slice en_a3 en_n3 en_c3, .slice en_a4 en_n4 en_c4, .slice en_a5 en_n5 en_c5] 31) := ⟨_, rfl⟩
  have HWB : Hid (Below w.heap.size w W) := by unfold Hid; rw [hW]; (repeat (first | exact Below.refl _ _ | assumption | refine Below.drew ?_ | refine Below.alloc ?_ (by first | (simp; done) | (simp; omega)) _ | refine Below.setCell ?_ (by first | (simp; done) | (simp; omega)) _))
  have BXgr0 : Hid (W.cell? ⟨w.heap.size, 0, none⟩ = some (.int .i64 gr.p)) := by unfold Hid; rw [hW]; simp [go_sem]
  have BXgr1 : Hid (W.cell? ⟨w.heap.size, 1, none⟩ = some (.int .i64 gr.q)) := by unfold Hid; rw [hW]; simp [go_sem]
  have BXgr2 : Hid (W.cell? ⟨w.heap.size, 2, none⟩ = some (.int .i64 gr.g)) := by unfold Hid; rw [hW]; simp [go_sem]
  have BXbd0 : Hid (W.cell? ⟨w.heap.size + 1, 0, none⟩ = some (.slice bd_a0 bd_n0 bd_c0)) := by unfold Hid; rw [hW]; simp [go_sem]
  have BXbd1 : Hid (W.cell? ⟨w.heap.size + 1, 1, none⟩ = some (.slice bd_a1 bd_n1 bd_c1)) := by unfold Hid; rw [hW]; simp [go_sem]
  have BXen0 : Hid (W.cell? ⟨w.heap.size + 1 + 1, 0, none⟩ = some (.int .i64 len.kind)) := by unfold Hid; rw [hW]; simp [go_sem]
  have BXen1 : Hid (W.cell? ⟨w.heap.size + 1 + 1, 1, none⟩ = some (.int .i64 len.author)) := by unfold Hid; rw [hW]; simp [go_sem]
  have BXen2 : Hid (W.cell? ⟨w.heap.size + 1 + 1, 2, none⟩ = some (.slice en_a2 en_n2 en_c2)) := by unfold Hid; rw [hW]; simp [go_sem]
  have BXen3 : Hid (W.cell? ⟨w.heap.size + 1 + 1, 3, none⟩ = some (.slice en_a3 en_n3 en_c3)) := by unfold Hid; rw [hW]; simp [go_sem]
  have BXen4 : Hid (W.cell? ⟨w.heap.size + 1 + 1, 4, none⟩ = some (.slice en_a4 en_n4 en_c4)) := by unfold Hid; rw [hW]; simp [go_sem]
  have BXen5 : Hid (W.cell? ⟨w.heap.size + 1 + 1, 5, none⟩ = some (.slice en_a5 en_n5 en_c5)) := by unfold Hid; rw [hW]; simp [go_sem]
  replace hbd := ((kS rBoard).rd_below hbd HWB.out)
  replace hen := ((kS rEntry).rd_below hen HWB.out)
  have Hbd := Lib.hid hbd; clear hbd
  have Hen := Lib.hid hen; clear hen
  obtain ⟨lR0, hR0⟩ : ∃ d, (apD gr lbd len) = d := ⟨_, rfl⟩
  have HR0 := Lib.hid hR0
  clear hR0
  go_enter Try.func3, Try.ntmps3
  go_wp2_with fail
  rw [← hW]
  clear hW
  have pxgr0_0 := BXgr0.out
  have pxgr1_0 := BXgr1.out
  have pxgr2_0 := BXgr2.out
  have pxbd0_0 := BXbd0.out
  have pxbd1_0 := BXbd1.out
  have pxen0_0 := BXen0.out
  have pxen1_0 := BXen1.out
  have pxen2_0 := BXen2.out
  have pxen3_0 := BXen3.out
  have pxen4_0 := BXen4.out
  have pxen5_0 := BXen5.out
  refine (laws_szBoard _ lbd 1048576 _ ((kS rBoard).rd_below Hbd.out (Below.refl _ _)) (by decide) (by decide)).mono ?_
  rintro e w1 ⟨⟨r0, rfl, hr0, hsz0⟩, hb1⟩
  replace hsz0 : 0 ≤ r0 → (szBoard lbd : Int) ≤ 1048576 ∧ r0 ≤ 1048576 := fun h => by have := hsz0 h; omega
  have HB1 := Lib.hid (Below.next (Below.refl _ _) hb1)
  have hs1 := hb1.size
  have AJ1 := Lib.hid hb1; clear hb1
  have pxgr0_1 := box_at BXgr0.out HB1.out
  clear pxgr0_0
  have pxgr1_1 := box_at BXgr1.out HB1.out
  clear pxgr1_0
  have pxgr2_1 := box_at BXgr2.out HB1.out
  clear pxgr2_0
  have pxbd0_1 := box_at BXbd0.out HB1.out
  clear pxbd0_0
  have pxbd1_1 := box_at BXbd1.out HB1.out
  clear pxbd1_0
  have pxen0_1 := box_at BXen0.out HB1.out
  clear pxen0_0
  have pxen1_1 := box_at BXen1.out HB1.out
  clear pxen1_0
  have pxen2_1 := box_at BXen2.out HB1.out
  clear pxen2_0
  have pxen3_1 := box_at BXen3.out HB1.out
  clear pxen3_0
  have pxen4_1 := box_at BXen4.out HB1.out
  clear pxen4_0
  have pxen5_1 := box_at BXen5.out HB1.out
  clear pxen5_0
  by_cases hneg0 : r0 < 0
  · go_wp2_with fail
    go_ret
    exact ⟨rfl, HWB.out.trans (HB1.out.mono HWB.out.size)⟩
  · have HZbd : Hid ((szBoard lbd : Int) ≤ 1000000000) := by have := (hsz0 (by omega)).1; unfold Hid; omega
    have HYbd : Hid ((szBoard lbd : Int) ≤ 1048576) := by have := (hsz0 (by omega)).1; unfold Hid; omega
    have hrb0 : r0 ≤ 1048576 := by have := (hsz0 (by omega)).2; omega
    clear hsz0
    go_wp2_with fail
    refine (laws_szEntry _ len r0 _ ((kS rEntry).rd_below Hen.out HB1.out) (by omega) (by omega)).mono ?_
    rintro e w2 ⟨⟨r1, rfl, hr1, hsz1⟩, hb2⟩
    replace hsz1 : 0 ≤ r1 → (szEntry len : Int) ≤ r0 ∧ r1 ≤ r0 := fun h => by have := hsz1 h; omega
    have HB2 := Lib.hid (Below.next HB1.out hb2)
    have hs2 := hb2.size
    have AJ2 := Lib.hid hb2; clear hb2
    have pxgr0_2 := box_at BXgr0.out HB2.out
    clear pxgr0_1
    have pxgr1_2 := box_at BXgr1.out HB2.out
    clear pxgr1_1
    have pxgr2_2 := box_at BXgr2.out HB2.out
    clear pxgr2_1
    have pxbd0_2 := box_at BXbd0.out HB2.out
    clear pxbd0_1
    have pxbd1_2 := box_at BXbd1.out HB2.out
    clear pxbd1_1
    have pxen0_2 := box_at BXen0.out HB2.out
    clear pxen0_1
    have pxen1_2 := box_at BXen1.out HB2.out
    clear pxen1_1
    have pxen2_2 := box_at BXen2.out HB2.out
    clear pxen2_1
    have pxen3_2 := box_at BXen3.out HB2.out
    clear pxen3_1
    have pxen4_2 := box_at BXen4.out HB2.out
    clear pxen4_1
    have pxen5_2 := box_at BXen5.out HB2.out
    clear pxen5_1
    by_cases hneg1 : r1 < 0
    · go_wp2_with fail
      go_ret
      exact ⟨rfl, HWB.out.trans (HB2.out.mono HWB.out.size)⟩
    · have HZen : Hid ((szEntry len : Int) ≤ 1000000000) := by have := (hsz1 (by omega)).1; unfold Hid; omega
      have HYen : Hid ((szEntry len : Int) ≤ 1048576) := by have := (hsz1 (by omega)).1; unfold Hid; omega
      have hrb1 : r1 ≤ 1048576 := by have := (hsz1 (by omega)).2; omega
      clear hsz1
      go_upto_region 8 with fail
      go_cut [8, 9] from 19 (fun vb vf wx => ∃ (BQ LO HI : Nat) (want0_a0 : Option Addr) (want0_n0 : Nat) (want0_c0 : Nat) (want0_a1 : Option Addr) (want0_n1 : Nat) (want0_c1 : Nat), vb = .pointer (some ⟨BQ, 0, none⟩) ∧ vf = .bool (apB gr lbd len) ∧ Hid (Below w2.heap.size w2 wx) ∧ Hid ((kS rBoard).own wx LO HI (.agg #[.slice want0_a0 want0_n0 want0_c0, .slice want0_a1 want0_n1 want0_c1]) lR0) ∧ wx.cell? ⟨BQ, 0, none⟩ = some (.slice want0_a0 want0_n0 want0_c0) ∧ wx.cell? ⟨BQ, 1, none⟩ = some (.slice want0_a1 want0_n1 want0_c1) ∧ w2.heap.size ≤ LO ∧ LO ≤ HI ∧ HI ≤ wx.heap.size ∧ w2.heap.size ≤ BQ ∧ BQ < wx.heap.size ∧ (BQ < LO ∨ HI ≤ BQ))
      case first =>
        refine wp_region_noPanic ?_
        refine wp_region_V (fun w' => w'.cell? ⟨w.heap.size, 0, none⟩ = some (.int .i64 gr.p) ∧ w'.cell? ⟨w.heap.size, 1, none⟩ = some (.int .i64 gr.q) ∧ w'.cell? ⟨w.heap.size, 2, none⟩ = some (.int .i64 gr.g) ∧ w'.cell? ⟨w.heap.size + 1, 0, none⟩ = some (.slice bd_a0 bd_n0 bd_c0) ∧ w'.cell? ⟨w.heap.size + 1, 1, none⟩ = some (.slice bd_a1 bd_n1 bd_c1) ∧ w'.cell? ⟨w.heap.size + 1 + 1, 0, none⟩ = some (.int .i64 len.kind) ∧ w'.cell? ⟨w.heap.size + 1 + 1, 1, none⟩ = some (.int .i64 len.author) ∧ w'.cell? ⟨w.heap.size + 1 + 1, 2, none⟩ = some (.slice en_a2 en_n2 en_c2) ∧ w'.cell? ⟨w.heap.size + 1 + 1, 3, none⟩ = some (.slice en_a3 en_n3 en_c3) ∧ w'.cell? ⟨w.heap.size + 1 + 1, 4, none⟩ = some (.slice en_a4 en_n4 en_c4) ∧ w'.cell? ⟨w.heap.size + 1 + 1, 5, none⟩ = some (.slice en_a5 en_n5 en_c5)) 15 12 (.rd 0 (.rd 2 (.rd 4 (.alt 1 (.alt 3 (.alt 5 (.alt 6 (.rd 7 (.rd 8 (.rd 9 (.alt 10 (.alt 11 .done .nil) .nil)))) (.alt 10 (.alt 6 (.rd 7 (.rd 8 (.rd 9 (.alt 11 .done .nil)))) .nil) .nil)) (.alt 10 (.alt 5 (.alt 6 (.rd 7 (.rd 8 (.rd 9 (.alt 11 .done .nil)))) .nil) .nil) .nil)) (.alt 10 (.alt 3 (.alt 5 (.alt 6 (.rd 7 (.rd 8 (.rd 9 (.alt 11 .done .nil)))) .nil) .nil) .nil) .nil)) (.alt 10 (.alt 1 (.alt 3 (.alt 5 (.alt 6 (.rd 7 (.rd 8 (.rd 9 (.alt 11 .done .nil)))) .nil) .nil) .nil) .nil) .nil))))) [12] (by kernel_rfl) (by kernel_rfl) rfl (fun _ _ _ _ _ h => h) ⟨box_at pxgr0_2 (Below.refl _ _).drew, box_at pxgr1_2 (Below.refl _ _).drew, box_at pxgr2_2 (Below.refl _ _).drew, box_at pxbd0_2 (Below.refl _ _).drew, box_at pxbd1_2 (Below.refl _ _).drew, box_at pxen0_2 (Below.refl _ _).drew, box_at pxen1_2 (Below.refl _ _).drew, box_at pxen2_2 (Below.refl _ _).drew, box_at pxen3_2 (Below.refl _ _).drew, box_at pxen4_2 (Below.refl _ _).drew, box_at pxen5_2 (Below.refl _ _).drew⟩ ?_
        simp only [pickV, pickN, List.getElem?_cons_zero, List.getElem?_cons_succ]
        have HC0 : Hid (Below w2.heap.size w2 w2.drew) := (Below.refl _ _).drew
        repeat (refine' wpV_read _ (by kernel_rfl) (fun w' hS' => ?_) ?_; rotate_left; · ((try dsimp only at hS'); go_simp; (try with_reducible rfl)); (try simp only [Act.put, List.setIfInBounds_toArray, List.set_cons_zero, List.set_cons_succ]))
        refine wpV_or (by kernel_rfl) (fun K hK => ?_) ?_
        · go_simp
          go_at_call 18
          refine (laws_toGroup gr _).mono ?_
          rintro e u_1 ⟨rfl, hq⟩
          have HC_1 := Lib.hid (Below.next HC0.out hq)
          have hsz_1 := hq.size
          have hsw_1 := HC_1.out.size
          clear hq
          refine hK.out _ _ ⟨box_at pxgr0_2 HC_1.out, box_at pxgr1_2 HC_1.out, box_at pxgr2_2 HC_1.out, box_at pxbd0_2 HC_1.out, box_at pxbd1_2 HC_1.out, box_at pxen0_2 HC_1.out, box_at pxen1_2 HC_1.out, box_at pxen2_2 HC_1.out, box_at pxen3_2 HC_1.out, box_at pxen4_2 HC_1.out, box_at pxen5_2 HC_1.out⟩ (fun _ => ?_)
          clear hK K
          (try simp only [Act.put, List.setIfInBounds_toArray, List.set_cons_zero, List.set_cons_succ])
          refine wpV_or (by kernel_rfl) (fun K hK => ?_) ?_
          · go_simp
            go_at_call 19
            refine (laws_toBoard _ lbd _ ((kS rBoard).rd_below Hbd.out (HB2.out.trans (HC_1.out.mono HB2.out.size))) HZbd.out).mono ?_
            rintro e u_2 ⟨sbd, rfl, hX, hq⟩
            have Osbd := Lib.hid hX
            clear hX
            obtain ⟨sbd_a0, sbd_n0, sbd_c0, sbd_a1, sbd_n1, sbd_c1, rfl, hrest⟩ := rdBoard.1 ((kS rBoard).own_rd Osbd.out)
            clear hrest
            have RDbd_2 := Lib.hid (((kS rBoard).own_rd Osbd.out))
            have HC_2 := Lib.hid (Below.next HC_1.out hq)
            have hsz_2 := hq.size
            have hsw_2 := HC_2.out.size
            clear hq
            refine hK.out _ _ ⟨box_at pxgr0_2 HC_2.out, box_at pxgr1_2 HC_2.out, box_at pxgr2_2 HC_2.out, box_at pxbd0_2 HC_2.out, box_at pxbd1_2 HC_2.out, box_at pxen0_2 HC_2.out, box_at pxen1_2 HC_2.out, box_at pxen2_2 HC_2.out, box_at pxen3_2 HC_2.out, box_at pxen4_2 HC_2.out, box_at pxen5_2 HC_2.out⟩ (fun _ => ?_)
            clear hK K
            (try simp only [Act.put, List.setIfInBounds_toArray, List.set_cons_zero, List.set_cons_succ])
            refine wpV_or (by kernel_rfl) (fun K hK => ?_) ?_
            · go_simp
              go_at_call 20
              refine (laws_toEntry _ len _ ((kS rEntry).rd_below Hen.out (HB2.out.trans (HC_2.out.mono HB2.out.size))) HZen.out).mono ?_
              rintro e u_3 ⟨sen, rfl, hX, hq⟩
              have Osen := Lib.hid hX
              clear hX
              obtain ⟨sen_a2, sen_n2, sen_c2, sen_a3, sen_n3, sen_c3, sen_a4, sen_n4, sen_c4, sen_a5, sen_n5, sen_c5, rfl, hrest⟩ := rdEntry.1 ((kS rEntry).own_rd Osen.out)
              clear hrest
              have RDen_3 := Lib.hid (((kS rEntry).own_rd Osen.out))
              have HC_3 := Lib.hid (Below.next HC_2.out hq)
              have hsz_3 := hq.size
              have hsw_3 := HC_3.out.size
              have RDbd_3 := Lib.hid (((kS rBoard).rd_below RDbd_2.out hq))
              clear hq
              refine hK.out _ _ ⟨box_at pxgr0_2 HC_3.out, box_at pxgr1_2 HC_3.out, box_at pxgr2_2 HC_3.out, box_at pxbd0_2 HC_3.out, box_at pxbd1_2 HC_3.out, box_at pxen0_2 HC_3.out, box_at pxen1_2 HC_3.out, box_at pxen2_2 HC_3.out, box_at pxen3_2 HC_3.out, box_at pxen4_2 HC_3.out, box_at pxen5_2 HC_3.out⟩ (fun _ => ?_)
              clear hK K
              (try simp only [Act.put, List.setIfInBounds_toArray, List.set_cons_zero, List.set_cons_succ])
              refine wpV_or (by kernel_rfl) (fun K hK => ?_) ?_
              · go_simp
                go_at_call 17
                refine (spec_AppendEntry gr _ lbd _ len _ Jgr.out HYbd.out RDbd_3.out HYen.out RDen_3.out).mono ?_
                rintro e u_4 ⟨want0, rfl, hX, hq⟩
                rw [HR0.out] at hX
                have OW4 := Lib.hid hX
                clear hX
                obtain ⟨want0_a0, want0_n0, want0_c0, want0_a1, want0_n1, want0_c1, rfl, hrest⟩ := rdBoard.1 ((kS rBoard).own_rd OW4.out)
                clear hrest
                have HC_4 := Lib.hid (Below.next HC_3.out hq)
                have hsz_4 := hq.size
                have hsw_4 := HC_4.out.size
                have RDbd_4 := Lib.hid (((kS rBoard).rd_below RDbd_3.out hq))
                have RDen_4 := Lib.hid (((kS rEntry).rd_below RDen_3.out hq))
                clear hq
                refine hK.out _ _ ⟨box_at pxgr0_2 HC_4.out, box_at pxgr1_2 HC_4.out, box_at pxgr2_2 HC_4.out, box_at pxbd0_2 HC_4.out, box_at pxbd1_2 HC_4.out, box_at pxen0_2 HC_4.out, box_at pxen1_2 HC_4.out, box_at pxen2_2 HC_4.out, box_at pxen3_2 HC_4.out, box_at pxen4_2 HC_4.out, box_at pxen5_2 HC_4.out⟩ (fun _ => ?_)
                clear hK K
                (try simp only [Act.put, List.setIfInBounds_toArray, List.set_cons_zero, List.set_cons_succ])
                repeat (refine' wpV_read _ (by kernel_rfl) (fun w' hS' => ?_) ?_; rotate_left; · ((try dsimp only at hS'); go_simp; (try with_reducible rfl)); (try simp only [Act.put, List.setIfInBounds_toArray, List.set_cons_zero, List.set_cons_succ]))
                refine wpV_do (by kernel_rfl) (fun K hK => ?_)
                go_simp
                obtain ⟨u_5, hX⟩ : ∃ x0, x0 = (u_4.alloc (.cells #[.slice none 0 0, .slice none 0 0] 36)) := ⟨_, rfl⟩
                have hq : Below u_4.heap.size u_4 u_5 := by rw [hX]; exact ((Below.refl _ _).alloc (Nat.le_refl _) _)
                have HX5 : Hid (BoxN u_5 u_4.heap.size 36 [.slice none 0 0, .slice none 0 0]) := by unfold Hid; rw [hX]; exact BoxN.new u_4 [.slice none 0 0, .slice none 0 0] 36
                have hlt5 := HX5.out.lt
                rw [← hX]
                clear hX
                have HC_5 := Lib.hid (Below.next HC_4.out hq)
                have hsz_5 := hq.size
                have hsw_5 := HC_5.out.size
                have RDbd_5 := Lib.hid (((kS rBoard).rd_below RDbd_4.out hq))
                have RDen_5 := Lib.hid (((kS rEntry).rd_below RDen_4.out hq))
                have OW5 := Lib.hid (Kind.next (K := (kS rBoard)) OW4.out hq)
                clear hq
                refine hK.out _ _ ⟨box_at pxgr0_2 HC_5.out, box_at pxgr1_2 HC_5.out, box_at pxgr2_2 HC_5.out, box_at pxbd0_2 HC_5.out, box_at pxbd1_2 HC_5.out, box_at pxen0_2 HC_5.out, box_at pxen1_2 HC_5.out, box_at pxen2_2 HC_5.out, box_at pxen3_2 HC_5.out, box_at pxen4_2 HC_5.out, box_at pxen5_2 HC_5.out⟩ (fun _ => ?_)
                clear hK K
                (try simp only [Act.put, List.setIfInBounds_toArray, List.set_cons_zero, List.set_cons_succ])
                have r0 := HX5.out.cell (i := 0) rfl
                have r1 := HX5.out.cell (i := 1) rfl
                have fr := fun j => HX5.out.frozen j
                have FB := Lib.hid ((HC_5.out.setCell (p := ⟨u_4.heap.size, 0, none⟩) (by show w2.heap.size ≤ u_4.heap.size; omega) (.slice want0_a0 want0_n0 want0_c0)).setCell (p := ⟨u_4.heap.size, 1, none⟩) (by show w2.heap.size ≤ u_4.heap.size; omega) (.slice want0_a1 want0_n1 want0_c1))
                have FX := Lib.hid ((HX5.out.set 0 (.slice want0_a0 want0_n0 want0_c0)).set 1 (.slice want0_a1 want0_n1 want0_c1))
                have FO := Lib.hid (Kind.kept (K := (kS rBoard)) OW5.out (((Within.refl (u_4.heap.size) (u_4.heap.size + 1) u_5).setCell (b := u_4.heap.size) (by omega) (by omega) 0 (.slice want0_a0 want0_n0 want0_c0)).setCell (b := u_4.heap.size) (by omega) (by omega) 1 (.slice want0_a1 want0_n1 want0_c1)) (by omega))
                have fsz := FX.out.lt
                have fsw := ((((Within.refl (u_4.heap.size) (u_4.heap.size + 1) u_5).setCell (b := u_4.heap.size) (by omega) (by omega) 0 (.slice want0_a0 want0_n0 want0_c0)).setCell (b := u_4.heap.size) (by omega) (by omega) 1 (.slice want0_a1 want0_n1 want0_c1))).size
                refine wpV_do (by kernel_rfl) (fun K hK => ?_)
                go_simp
                refine hK.out _ _ ⟨box_at pxgr0_2 FB.out, box_at pxgr1_2 FB.out, box_at pxgr2_2 FB.out, box_at pxbd0_2 FB.out, box_at pxbd1_2 FB.out, box_at pxen0_2 FB.out, box_at pxen1_2 FB.out, box_at pxen2_2 FB.out, box_at pxen3_2 FB.out, box_at pxen4_2 FB.out, box_at pxen5_2 FB.out⟩ (fun _ => ?_)
                clear hK K
                (try simp only [Act.put, List.setIfInBounds_toArray, List.set_cons_zero, List.set_cons_succ])
                refine wpV_done ?_
                go_wp2_with fail
                refine NoPanic.normal ?_
                try (go_wp2_with fail)
                go_meet
                exact ⟨u_4.heap.size, u_3.heap.size, u_4.heap.size, _, _, _, _, _, _, rfl, rfl, FB, FO, FX.out.cell (i := 0) rfl, FX.out.cell (i := 1) rfl, by omega, by omega, by omega, by omega, by omega, by omega⟩
              refine wpV_do (by kernel_rfl) (fun K hK => ?_)
              go_simp
              obtain ⟨u_6, hX⟩ : ∃ x0, x0 = (u_3.alloc (.cells #[.slice none 0 0, .slice none 0 0] 36)) := ⟨_, rfl⟩
              have hq : Below u_3.heap.size u_3 u_6 := by rw [hX]; exact ((Below.refl _ _).alloc (Nat.le_refl _) _)
              have HX6 : Hid (BoxN u_6 u_3.heap.size 36 [.slice none 0 0, .slice none 0 0]) := by unfold Hid; rw [hX]; exact BoxN.new u_3 [.slice none 0 0, .slice none 0 0] 36
              have hlt6 := HX6.out.lt
              rw [← hX]
              clear hX
              have HC_6 := Lib.hid (Below.next HC_3.out hq)
              have hsz_6 := hq.size
              have hsw_6 := HC_6.out.size
              have RDbd_6 := Lib.hid (((kS rBoard).rd_below RDbd_3.out hq))
              have RDen_6 := Lib.hid (((kS rEntry).rd_below RDen_3.out hq))
              clear hq
              refine hK.out _ _ ⟨box_at pxgr0_2 HC_6.out, box_at pxgr1_2 HC_6.out, box_at pxgr2_2 HC_6.out, box_at pxbd0_2 HC_6.out, box_at pxbd1_2 HC_6.out, box_at pxen0_2 HC_6.out, box_at pxen1_2 HC_6.out, box_at pxen2_2 HC_6.out, box_at pxen3_2 HC_6.out, box_at pxen4_2 HC_6.out, box_at pxen5_2 HC_6.out⟩ (fun _ => ?_)
              clear hK K
              (try simp only [Act.put, List.setIfInBounds_toArray, List.set_cons_zero, List.set_cons_succ])
              refine wpV_do (by kernel_rfl) (fun K hK => ?_)
              go_simp
              go_at_call 17
              refine (spec_AppendEntry gr _ lbd _ len _ Jgr.out HYbd.out RDbd_6.out HYen.out RDen_6.out).mono ?_
              rintro e u_7 ⟨want0, rfl, hX, hq⟩
              rw [HR0.out] at hX
              have OW7 := Lib.hid hX
              clear hX
              obtain ⟨want0_a0, want0_n0, want0_c0, want0_a1, want0_n1, want0_c1, rfl, hrest⟩ := rdBoard.1 ((kS rBoard).own_rd OW7.out)
              clear hrest
              have HC_7 := Lib.hid (Below.next HC_6.out hq)
              have hsz_7 := hq.size
              have hsw_7 := HC_7.out.size
              have RDbd_7 := Lib.hid (((kS rBoard).rd_below RDbd_6.out hq))
              have RDen_7 := Lib.hid (((kS rEntry).rd_below RDen_6.out hq))
              have HX7 := Lib.hid (HX6.out.below hq)
              clear hq
              refine hK.out _ _ ⟨box_at pxgr0_2 HC_7.out, box_at pxgr1_2 HC_7.out, box_at pxgr2_2 HC_7.out, box_at pxbd0_2 HC_7.out, box_at pxbd1_2 HC_7.out, box_at pxen0_2 HC_7.out, box_at pxen1_2 HC_7.out, box_at pxen2_2 HC_7.out, box_at pxen3_2 HC_7.out, box_at pxen4_2 HC_7.out, box_at pxen5_2 HC_7.out⟩ (fun _ => ?_)
              clear hK K
              (try simp only [Act.put, List.setIfInBounds_toArray, List.set_cons_zero, List.set_cons_succ])
              repeat (refine' wpV_read _ (by kernel_rfl) (fun w' hS' => ?_) ?_; rotate_left; · ((try dsimp only at hS'); go_simp; (try with_reducible rfl)); (try simp only [Act.put, List.setIfInBounds_toArray, List.set_cons_zero, List.set_cons_succ]))
              have r0 := HX7.out.cell (i := 0) rfl
              have r1 := HX7.out.cell (i := 1) rfl
              have fr := fun j => HX7.out.frozen j
              have FB := Lib.hid ((HC_7.out.setCell (p := ⟨u_3.heap.size, 0, none⟩) (by show w2.heap.size ≤ u_3.heap.size; omega) (.slice want0_a0 want0_n0 want0_c0)).setCell (p := ⟨u_3.heap.size, 1, none⟩) (by show w2.heap.size ≤ u_3.heap.size; omega) (.slice want0_a1 want0_n1 want0_c1))
              have FX := Lib.hid ((HX7.out.set 0 (.slice want0_a0 want0_n0 want0_c0)).set 1 (.slice want0_a1 want0_n1 want0_c1))
              have FO := Lib.hid (Kind.kept (K := (kS rBoard)) OW7.out (((Within.refl (u_3.heap.size) (u_3.heap.size + 1) u_7).setCell (b := u_3.heap.size) (by omega) (by omega) 0 (.slice want0_a0 want0_n0 want0_c0)).setCell (b := u_3.heap.size) (by omega) (by omega) 1 (.slice want0_a1 want0_n1 want0_c1)) (by omega))
              have fsz := FX.out.lt
              have fsw := ((((Within.refl (u_3.heap.size) (u_3.heap.size + 1) u_7).setCell (b := u_3.heap.size) (by omega) (by omega) 0 (.slice want0_a0 want0_n0 want0_c0)).setCell (b := u_3.heap.size) (by omega) (by omega) 1 (.slice want0_a1 want0_n1 want0_c1))).size
              refine wpV_do (by kernel_rfl) (fun K hK => ?_)
              go_simp
              refine hK.out _ _ ⟨box_at pxgr0_2 FB.out, box_at pxgr1_2 FB.out, box_at pxgr2_2 FB.out, box_at pxbd0_2 FB.out, box_at pxbd1_2 FB.out, box_at pxen0_2 FB.out, box_at pxen1_2 FB.out, box_at pxen2_2 FB.out, box_at pxen3_2 FB.out, box_at pxen4_2 FB.out, box_at pxen5_2 FB.out⟩ (fun _ => ?_)
              clear hK K
              (try simp only [Act.put, List.setIfInBounds_toArray, List.set_cons_zero, List.set_cons_succ])
              refine wpV_done ?_
              go_wp2_with fail
              refine NoPanic.normal ?_
              try (go_wp2_with fail)
              go_meet
              exact ⟨u_3.heap.size, u_6.heap.size, u_7.heap.size, _, _, _, _, _, _, rfl, rfl, FB, FO, FX.out.cell (i := 0) rfl, FX.out.cell (i := 1) rfl, by omega, by omega, by omega, by omega, by omega, by omega⟩
            refine wpV_do (by kernel_rfl) (fun K hK => ?_)
            go_simp
            obtain ⟨u_8, hX⟩ : ∃ x0, x0 = (u_2.alloc (.cells #[.slice none 0 0, .slice none 0 0] 36)) := ⟨_, rfl⟩
            have hq : Below u_2.heap.size u_2 u_8 := by rw [hX]; exact ((Below.refl _ _).alloc (Nat.le_refl _) _)
            have HX8 : Hid (BoxN u_8 u_2.heap.size 36 [.slice none 0 0, .slice none 0 0]) := by unfold Hid; rw [hX]; exact BoxN.new u_2 [.slice none 0 0, .slice none 0 0] 36
            have hlt8 := HX8.out.lt
            rw [← hX]
            clear hX
            have HC_8 := Lib.hid (Below.next HC_2.out hq)
            have hsz_8 := hq.size
            have hsw_8 := HC_8.out.size
            have RDbd_8 := Lib.hid (((kS rBoard).rd_below RDbd_2.out hq))
            clear hq
            refine hK.out _ _ ⟨box_at pxgr0_2 HC_8.out, box_at pxgr1_2 HC_8.out, box_at pxgr2_2 HC_8.out, box_at pxbd0_2 HC_8.out, box_at pxbd1_2 HC_8.out, box_at pxen0_2 HC_8.out, box_at pxen1_2 HC_8.out, box_at pxen2_2 HC_8.out, box_at pxen3_2 HC_8.out, box_at pxen4_2 HC_8.out, box_at pxen5_2 HC_8.out⟩ (fun _ => ?_)
            clear hK K
            (try simp only [Act.put, List.setIfInBounds_toArray, List.set_cons_zero, List.set_cons_succ])
            refine wpV_do (by kernel_rfl) (fun K hK => ?_)
            go_simp
            go_at_call 20
            refine (laws_toEntry _ len _ ((kS rEntry).rd_below Hen.out (HB2.out.trans (HC_8.out.mono HB2.out.size))) HZen.out).mono ?_
            rintro e u_9 ⟨sen, rfl, hX, hq⟩
            have Osen := Lib.hid hX
            clear hX
            obtain ⟨sen_a2, sen_n2, sen_c2, sen_a3, sen_n3, sen_c3, sen_a4, sen_n4, sen_c4, sen_a5, sen_n5, sen_c5, rfl, hrest⟩ := rdEntry.1 ((kS rEntry).own_rd Osen.out)
            clear hrest
            have RDen_9 := Lib.hid (((kS rEntry).own_rd Osen.out))
            have HC_9 := Lib.hid (Below.next HC_8.out hq)
            have hsz_9 := hq.size
            have hsw_9 := HC_9.out.size
            have RDbd_9 := Lib.hid (((kS rBoard).rd_below RDbd_8.out hq))
            have HX9 := Lib.hid (HX8.out.below hq)
            clear hq
            refine hK.out _ _ ⟨box_at pxgr0_2 HC_9.out, box_at pxgr1_2 HC_9.out, box_at pxgr2_2 HC_9.out, box_at pxbd0_2 HC_9.out, box_at pxbd1_2 HC_9.out, box_at pxen0_2 HC_9.out, box_at pxen1_2 HC_9.out, box_at pxen2_2 HC_9.out, box_at pxen3_2 HC_9.out, box_at pxen4_2 HC_9.out, box_at pxen5_2 HC_9.out⟩ (fun _ => ?_)
            clear hK K
            (try simp only [Act.put, List.setIfInBounds_toArray, List.set_cons_zero, List.set_cons_succ])
            refine wpV_do (by kernel_rfl) (fun K hK => ?_)
            go_simp
            go_at_call 17
            refine (spec_AppendEntry gr _ lbd _ len _ Jgr.out HYbd.out RDbd_9.out HYen.out RDen_9.out).mono ?_
            rintro e u_10 ⟨want0, rfl, hX, hq⟩
            rw [HR0.out] at hX
            have OW10 := Lib.hid hX
            clear hX
            obtain ⟨want0_a0, want0_n0, want0_c0, want0_a1, want0_n1, want0_c1, rfl, hrest⟩ := rdBoard.1 ((kS rBoard).own_rd OW10.out)
            clear hrest
            have HC_10 := Lib.hid (Below.next HC_9.out hq)
            have hsz_10 := hq.size
            have hsw_10 := HC_10.out.size
            have RDbd_10 := Lib.hid (((kS rBoard).rd_below RDbd_9.out hq))
            have RDen_10 := Lib.hid (((kS rEntry).rd_below RDen_9.out hq))
            have HX10 := Lib.hid (HX9.out.below hq)
            clear hq
            refine hK.out _ _ ⟨box_at pxgr0_2 HC_10.out, box_at pxgr1_2 HC_10.out, box_at pxgr2_2 HC_10.out, box_at pxbd0_2 HC_10.out, box_at pxbd1_2 HC_10.out, box_at pxen0_2 HC_10.out, box_at pxen1_2 HC_10.out, box_at pxen2_2 HC_10.out, box_at pxen3_2 HC_10.out, box_at pxen4_2 HC_10.out, box_at pxen5_2 HC_10.out⟩ (fun _ => ?_)
            clear hK K
            (try simp only [Act.put, List.setIfInBounds_toArray, List.set_cons_zero, List.set_cons_succ])
            repeat (refine' wpV_read _ (by kernel_rfl) (fun w' hS' => ?_) ?_; rotate_left; · ((try dsimp only at hS'); go_simp; (try with_reducible rfl)); (try simp only [Act.put, List.setIfInBounds_toArray, List.set_cons_zero, List.set_cons_succ]))
            have r0 := HX10.out.cell (i := 0) rfl
            have r1 := HX10.out.cell (i := 1) rfl
            have fr := fun j => HX10.out.frozen j
            have FB := Lib.hid ((HC_10.out.setCell (p := ⟨u_2.heap.size, 0, none⟩) (by show w2.heap.size ≤ u_2.heap.size; omega) (.slice want0_a0 want0_n0 want0_c0)).setCell (p := ⟨u_2.heap.size, 1, none⟩) (by show w2.heap.size ≤ u_2.heap.size; omega) (.slice want0_a1 want0_n1 want0_c1))
            have FX := Lib.hid ((HX10.out.set 0 (.slice want0_a0 want0_n0 want0_c0)).set 1 (.slice want0_a1 want0_n1 want0_c1))
            have FO := Lib.hid (Kind.kept (K := (kS rBoard)) OW10.out (((Within.refl (u_2.heap.size) (u_2.heap.size + 1) u_10).setCell (b := u_2.heap.size) (by omega) (by omega) 0 (.slice want0_a0 want0_n0 want0_c0)).setCell (b := u_2.heap.size) (by omega) (by omega) 1 (.slice want0_a1 want0_n1 want0_c1)) (by omega))
            have fsz := FX.out.lt
            have fsw := ((((Within.refl (u_2.heap.size) (u_2.heap.size + 1) u_10).setCell (b := u_2.heap.size) (by omega) (by omega) 0 (.slice want0_a0 want0_n0 want0_c0)).setCell (b := u_2.heap.size) (by omega) (by omega) 1 (.slice want0_a1 want0_n1 want0_c1))).size
            refine wpV_do (by kernel_rfl) (fun K hK => ?_)
            go_simp
            refine hK.out _ _ ⟨box_at pxgr0_2 FB.out, box_at pxgr1_2 FB.out, box_at pxgr2_2 FB.out, box_at pxbd0_2 FB.out, box_at pxbd1_2 FB.out, box_at pxen0_2 FB.out, box_at pxen1_2 FB.out, box_at pxen2_2 FB.out, box_at pxen3_2 FB.out, box_at pxen4_2 FB.out, box_at pxen5_2 FB.out⟩ (fun _ => ?_)
            clear hK K
            (try simp only [Act.put, List.setIfInBounds_toArray, List.set_cons_zero, List.set_cons_succ])
            refine wpV_done ?_
            go_wp2_with fail
            refine NoPanic.normal ?_
            try (go_wp2_with fail)
            go_meet
            exact ⟨u_2.heap.size, u_9.heap.size, u_10.heap.size, _, _, _, _, _, _, rfl, rfl, FB, FO, FX.out.cell (i := 0) rfl, FX.out.cell (i := 1) rfl, by omega, by omega, by omega, by omega, by omega, by omega⟩
          refine wpV_do (by kernel_rfl) (fun K hK => ?_)
          go_simp
          obtain ⟨u_11, hX⟩ : ∃ x0, x0 = (u_1.alloc (.cells #[.slice none 0 0, .slice none 0 0] 36)) := ⟨_, rfl⟩
          have hq : Below u_1.heap.size u_1 u_11 := by rw [hX]; exact ((Below.refl _ _).alloc (Nat.le_refl _) _)
          have HX11 : Hid (BoxN u_11 u_1.heap.size 36 [.slice none 0 0, .slice none 0 0]) := by unfold Hid; rw [hX]; exact BoxN.new u_1 [.slice none 0 0, .slice none 0 0] 36
          have hlt11 := HX11.out.lt
          rw [← hX]
          clear hX
          have HC_11 := Lib.hid (Below.next HC_1.out hq)
          have hsz_11 := hq.size
          have hsw_11 := HC_11.out.size
          clear hq
          refine hK.out _ _ ⟨box_at pxgr0_2 HC_11.out, box_at pxgr1_2 HC_11.out, box_at pxgr2_2 HC_11.out, box_at pxbd0_2 HC_11.out, box_at pxbd1_2 HC_11.out, box_at pxen0_2 HC_11.out, box_at pxen1_2 HC_11.out, box_at pxen2_2 HC_11.out, box_at pxen3_2 HC_11.out, box_at pxen4_2 HC_11.out, box_at pxen5_2 HC_11.out⟩ (fun _ => ?_)
          clear hK K
          (try simp only [Act.put, List.setIfInBounds_toArray, List.set_cons_zero, List.set_cons_succ])
          refine wpV_do (by kernel_rfl) (fun K hK => ?_)
          go_simp
          go_at_call 19
          refine (laws_toBoard _ lbd _ ((kS rBoard).rd_below Hbd.out (HB2.out.trans (HC_11.out.mono HB2.out.size))) HZbd.out).mono ?_
          rintro e u_12 ⟨sbd, rfl, hX, hq⟩
          have Osbd := Lib.hid hX
          clear hX
          obtain ⟨sbd_a0, sbd_n0, sbd_c0, sbd_a1, sbd_n1, sbd_c1, rfl, hrest⟩ := rdBoard.1 ((kS rBoard).own_rd Osbd.out)
          clear hrest
          have RDbd_12 := Lib.hid (((kS rBoard).own_rd Osbd.out))
          have HC_12 := Lib.hid (Below.next HC_11.out hq)
          have hsz_12 := hq.size
          have hsw_12 := HC_12.out.size
          have HX12 := Lib.hid (HX11.out.below hq)
          clear hq
          refine hK.out _ _ ⟨box_at pxgr0_2 HC_12.out, box_at pxgr1_2 HC_12.out, box_at pxgr2_2 HC_12.out, box_at pxbd0_2 HC_12.out, box_at pxbd1_2 HC_12.out, box_at pxen0_2 HC_12.out, box_at pxen1_2 HC_12.out, box_at pxen2_2 HC_12.out, box_at pxen3_2 HC_12.out, box_at pxen4_2 HC_12.out, box_at pxen5_2 HC_12.out⟩ (fun _ => ?_)
          clear hK K
          (try simp only [Act.put, List.setIfInBounds_toArray, List.set_cons_zero, List.set_cons_succ])
          refine wpV_do (by kernel_rfl) (fun K hK => ?_)
          go_simp
          go_at_call 20
          refine (laws_toEntry _ len _ ((kS rEntry).rd_below Hen.out (HB2.out.trans (HC_12.out.mono HB2.out.size))) HZen.out).mono ?_
          rintro e u_13 ⟨sen, rfl, hX, hq⟩
          have Osen := Lib.hid hX
          clear hX
          obtain ⟨sen_a2, sen_n2, sen_c2, sen_a3, sen_n3, sen_c3, sen_a4, sen_n4, sen_c4, sen_a5, sen_n5, sen_c5, rfl, hrest⟩ := rdEntry.1 ((kS rEntry).own_rd Osen.out)
          clear hrest
          have RDen_13 := Lib.hid (((kS rEntry).own_rd Osen.out))
          have HC_13 := Lib.hid (Below.next HC_12.out hq)
          have hsz_13 := hq.size
          have hsw_13 := HC_13.out.size
          have RDbd_13 := Lib.hid (((kS rBoard).rd_below RDbd_12.out hq))
          have HX13 := Lib.hid (HX12.out.below hq)
          clear hq
          refine hK.out _ _ ⟨box_at pxgr0_2 HC_13.out, box_at pxgr1_2 HC_13.out, box_at pxgr2_2 HC_13.out, box_at pxbd0_2 HC_13.out, box_at pxbd1_2 HC_13.out, box_at pxen0_2 HC_13.out, box_at pxen1_2 HC_13.out, box_at pxen2_2 HC_13.out, box_at pxen3_2 HC_13.out, box_at pxen4_2 HC_13.out, box_at pxen5_2 HC_13.out⟩ (fun _ => ?_)
          clear hK K
          (try simp only [Act.put, List.setIfInBounds_toArray, List.set_cons_zero, List.set_cons_succ])
          refine wpV_do (by kernel_rfl) (fun K hK => ?_)
          go_simp
          go_at_call 17
          refine (spec_AppendEntry gr _ lbd _ len _ Jgr.out HYbd.out RDbd_13.out HYen.out RDen_13.out).mono ?_
          rintro e u_14 ⟨want0, rfl, hX, hq⟩
          rw [HR0.out] at hX
          have OW14 := Lib.hid hX
          clear hX
          obtain ⟨want0_a0, want0_n0, want0_c0, want0_a1, want0_n1, want0_c1, rfl, hrest⟩ := rdBoard.1 ((kS rBoard).own_rd OW14.out)
          clear hrest
          have HC_14 := Lib.hid (Below.next HC_13.out hq)
          have hsz_14 := hq.size
          have hsw_14 := HC_14.out.size
          have RDbd_14 := Lib.hid (((kS rBoard).rd_below RDbd_13.out hq))
          have RDen_14 := Lib.hid (((kS rEntry).rd_below RDen_13.out hq))
          have HX14 := Lib.hid (HX13.out.below hq)
          clear hq
          refine hK.out _ _ ⟨box_at pxgr0_2 HC_14.out, box_at pxgr1_2 HC_14.out, box_at pxgr2_2 HC_14.out, box_at pxbd0_2 HC_14.out, box_at pxbd1_2 HC_14.out, box_at pxen0_2 HC_14.out, box_at pxen1_2 HC_14.out, box_at pxen2_2 HC_14.out, box_at pxen3_2 HC_14.out, box_at pxen4_2 HC_14.out, box_at pxen5_2 HC_14.out⟩ (fun _ => ?_)
          clear hK K
          (try simp only [Act.put, List.setIfInBounds_toArray, List.set_cons_zero, List.set_cons_succ])
          repeat (refine' wpV_read _ (by kernel_rfl) (fun w' hS' => ?_) ?_; rotate_left; · ((try dsimp only at hS'); go_simp; (try with_reducible rfl)); (try simp only [Act.put, List.setIfInBounds_toArray, List.set_cons_zero, List.set_cons_succ]))
          have r0 := HX14.out.cell (i := 0) rfl
          have r1 := HX14.out.cell (i := 1) rfl
          have fr := fun j => HX14.out.frozen j
          have FB := Lib.hid ((HC_14.out.setCell (p := ⟨u_1.heap.size, 0, none⟩) (by show w2.heap.size ≤ u_1.heap.size; omega) (.slice want0_a0 want0_n0 want0_c0)).setCell (p := ⟨u_1.heap.size, 1, none⟩) (by show w2.heap.size ≤ u_1.heap.size; omega) (.slice want0_a1 want0_n1 want0_c1))
          have FX := Lib.hid ((HX14.out.set 0 (.slice want0_a0 want0_n0 want0_c0)).set 1 (.slice want0_a1 want0_n1 want0_c1))
          have FO := Lib.hid (Kind.kept (K := (kS rBoard)) OW14.out (((Within.refl (u_1.heap.size) (u_1.heap.size + 1) u_14).setCell (b := u_1.heap.size) (by omega) (by omega) 0 (.slice want0_a0 want0_n0 want0_c0)).setCell (b := u_1.heap.size) (by omega) (by omega) 1 (.slice want0_a1 want0_n1 want0_c1)) (by omega))
          have fsz := FX.out.lt
          have fsw := ((((Within.refl (u_1.heap.size) (u_1.heap.size + 1) u_14).setCell (b := u_1.heap.size) (by omega) (by omega) 0 (.slice want0_a0 want0_n0 want0_c0)).setCell (b := u_1.heap.size) (by omega) (by omega) 1 (.slice want0_a1 want0_n1 want0_c1))).size
          refine wpV_do (by kernel_rfl) (fun K hK => ?_)
          go_simp
          refine hK.out _ _ ⟨box_at pxgr0_2 FB.out, box_at pxgr1_2 FB.out, box_at pxgr2_2 FB.out, box_at pxbd0_2 FB.out, box_at pxbd1_2 FB.out, box_at pxen0_2 FB.out, box_at pxen1_2 FB.out, box_at pxen2_2 FB.out, box_at pxen3_2 FB.out, box_at pxen4_2 FB.out, box_at pxen5_2 FB.out⟩ (fun _ => ?_)
          clear hK K
          (try simp only [Act.put, List.setIfInBounds_toArray, List.set_cons_zero, List.set_cons_succ])
          refine wpV_done ?_
          go_wp2_with fail
          refine NoPanic.normal ?_
          try (go_wp2_with fail)
          go_meet
          exact ⟨u_1.heap.size, u_13.heap.size, u_14.heap.size, _, _, _, _, _, _, rfl, rfl, FB, FO, FX.out.cell (i := 0) rfl, FX.out.cell (i := 1) rfl, by omega, by omega, by omega, by omega, by omega, by omega⟩
        refine wpV_do (by kernel_rfl) (fun K hK => ?_)
        go_simp
        obtain ⟨u_15, hX⟩ : ∃ x0, x0 = (w2.alloc (.cells #[.slice none 0 0, .slice none 0 0] 36)).drew := ⟨_, rfl⟩
        have hq : Below w2.heap.size w2 u_15 := by rw [hX]; exact ((Below.refl _ _).alloc (Nat.le_refl _) _).drew
        have HX15 : Hid (BoxN u_15 w2.heap.size 36 [.slice none 0 0, .slice none 0 0]) := by unfold Hid; rw [hX]; exact BoxN.below (BoxN.new w2 [.slice none 0 0, .slice none 0 0] 36) (Below.refl _ _).drew
        have hlt15 := HX15.out.lt
        rw [← hX]
        clear hX
        have HC_15 : Hid (Below w2.heap.size w2 u_15) := hq
        have hsz_15 := hq.size
        have hsw_15 := HC_15.out.size
        clear hq
        refine hK.out _ _ ⟨box_at pxgr0_2 HC_15.out, box_at pxgr1_2 HC_15.out, box_at pxgr2_2 HC_15.out, box_at pxbd0_2 HC_15.out, box_at pxbd1_2 HC_15.out, box_at pxen0_2 HC_15.out, box_at pxen1_2 HC_15.out, box_at pxen2_2 HC_15.out, box_at pxen3_2 HC_15.out, box_at pxen4_2 HC_15.out, box_at pxen5_2 HC_15.out⟩ (fun _ => ?_)
        clear hK K
        (try simp only [Act.put, List.setIfInBounds_toArray, List.set_cons_zero, List.set_cons_succ])
        refine wpV_do (by kernel_rfl) (fun K hK => ?_)
        go_simp
        go_at_call 18
        refine (laws_toGroup gr _).mono ?_
        rintro e u_16 ⟨rfl, hq⟩
        have HC_16 := Lib.hid (Below.next HC_15.out hq)
        have hsz_16 := hq.size
        have hsw_16 := HC_16.out.size
        have HX16 := Lib.hid (HX15.out.below hq)
        clear hq
        refine hK.out _ _ ⟨box_at pxgr0_2 HC_16.out, box_at pxgr1_2 HC_16.out, box_at pxgr2_2 HC_16.out, box_at pxbd0_2 HC_16.out, box_at pxbd1_2 HC_16.out, box_at pxen0_2 HC_16.out, box_at pxen1_2 HC_16.out, box_at pxen2_2 HC_16.out, box_at pxen3_2 HC_16.out, box_at pxen4_2 HC_16.out, box_at pxen5_2 HC_16.out⟩ (fun _ => ?_)
        clear hK K
        (try simp only [Act.put, List.setIfInBounds_toArray, List.set_cons_zero, List.set_cons_succ])
        refine wpV_do (by kernel_rfl) (fun K hK => ?_)
        go_simp
        go_at_call 19
        refine (laws_toBoard _ lbd _ ((kS rBoard).rd_below Hbd.out (HB2.out.trans (HC_16.out.mono HB2.out.size))) HZbd.out).mono ?_
        rintro e u_17 ⟨sbd, rfl, hX, hq⟩
        have Osbd := Lib.hid hX
        clear hX
        obtain ⟨sbd_a0, sbd_n0, sbd_c0, sbd_a1, sbd_n1, sbd_c1, rfl, hrest⟩ := rdBoard.1 ((kS rBoard).own_rd Osbd.out)
        clear hrest
        have RDbd_17 := Lib.hid (((kS rBoard).own_rd Osbd.out))
        have HC_17 := Lib.hid (Below.next HC_16.out hq)
        have hsz_17 := hq.size
        have hsw_17 := HC_17.out.size
        have HX17 := Lib.hid (HX16.out.below hq)
        clear hq
        refine hK.out _ _ ⟨box_at pxgr0_2 HC_17.out, box_at pxgr1_2 HC_17.out, box_at pxgr2_2 HC_17.out, box_at pxbd0_2 HC_17.out, box_at pxbd1_2 HC_17.out, box_at pxen0_2 HC_17.out, box_at pxen1_2 HC_17.out, box_at pxen2_2 HC_17.out, box_at pxen3_2 HC_17.out, box_at pxen4_2 HC_17.out, box_at pxen5_2 HC_17.out⟩ (fun _ => ?_)
        clear hK K
        (try simp only [Act.put, List.setIfInBounds_toArray, List.set_cons_zero, List.set_cons_succ])
        refine wpV_do (by kernel_rfl) (fun K hK => ?_)
        go_simp
        go_at_call 20
        refine (laws_toEntry _ len _ ((kS rEntry).rd_below Hen.out (HB2.out.trans (HC_17.out.mono HB2.out.size))) HZen.out).mono ?_
        rintro e u_18 ⟨sen, rfl, hX, hq⟩
        have Osen := Lib.hid hX
        clear hX
        obtain ⟨sen_a2, sen_n2, sen_c2, sen_a3, sen_n3, sen_c3, sen_a4, sen_n4, sen_c4, sen_a5, sen_n5, sen_c5, rfl, hrest⟩ := rdEntry.1 ((kS rEntry).own_rd Osen.out)
        clear hrest
        have RDen_18 := Lib.hid (((kS rEntry).own_rd Osen.out))
        have HC_18 := Lib.hid (Below.next HC_17.out hq)
        have hsz_18 := hq.size
        have hsw_18 := HC_18.out.size
        have RDbd_18 := Lib.hid (((kS rBoard).rd_below RDbd_17.out hq))
        have HX18 := Lib.hid (HX17.out.below hq)
        clear hq
        refine hK.out _ _ ⟨box_at pxgr0_2 HC_18.out, box_at pxgr1_2 HC_18.out, box_at pxgr2_2 HC_18.out, box_at pxbd0_2 HC_18.out, box_at pxbd1_2 HC_18.out, box_at pxen0_2 HC_18.out, box_at pxen1_2 HC_18.out, box_at pxen2_2 HC_18.out, box_at pxen3_2 HC_18.out, box_at pxen4_2 HC_18.out, box_at pxen5_2 HC_18.out⟩ (fun _ => ?_)
        clear hK K
        (try simp only [Act.put, List.setIfInBounds_toArray, List.set_cons_zero, List.set_cons_succ])
        refine wpV_do (by kernel_rfl) (fun K hK => ?_)
        go_simp
        go_at_call 17
        refine (spec_AppendEntry gr _ lbd _ len _ Jgr.out HYbd.out RDbd_18.out HYen.out RDen_18.out).mono ?_
        rintro e u_19 ⟨want0, rfl, hX, hq⟩
        rw [HR0.out] at hX
        have OW19 := Lib.hid hX
        clear hX
        obtain ⟨want0_a0, want0_n0, want0_c0, want0_a1, want0_n1, want0_c1, rfl, hrest⟩ := rdBoard.1 ((kS rBoard).own_rd OW19.out)
        clear hrest
        have HC_19 := Lib.hid (Below.next HC_18.out hq)
        have hsz_19 := hq.size
        have hsw_19 := HC_19.out.size
        have RDbd_19 := Lib.hid (((kS rBoard).rd_below RDbd_18.out hq))
        have RDen_19 := Lib.hid (((kS rEntry).rd_below RDen_18.out hq))
        have HX19 := Lib.hid (HX18.out.below hq)
        clear hq
        refine hK.out _ _ ⟨box_at pxgr0_2 HC_19.out, box_at pxgr1_2 HC_19.out, box_at pxgr2_2 HC_19.out, box_at pxbd0_2 HC_19.out, box_at pxbd1_2 HC_19.out, box_at pxen0_2 HC_19.out, box_at pxen1_2 HC_19.out, box_at pxen2_2 HC_19.out, box_at pxen3_2 HC_19.out, box_at pxen4_2 HC_19.out, box_at pxen5_2 HC_19.out⟩ (fun _ => ?_)
        clear hK K
        (try simp only [Act.put, List.setIfInBounds_toArray, List.set_cons_zero, List.set_cons_succ])
        repeat (refine' wpV_read _ (by kernel_rfl) (fun w' hS' => ?_) ?_; rotate_left; · ((try dsimp only at hS'); go_simp; (try with_reducible rfl)); (try simp only [Act.put, List.setIfInBounds_toArray, List.set_cons_zero, List.set_cons_succ]))
        have r0 := HX19.out.cell (i := 0) rfl
        have r1 := HX19.out.cell (i := 1) rfl
        have fr := fun j => HX19.out.frozen j
        have FB := Lib.hid ((HC_19.out.setCell (p := ⟨w2.heap.size, 0, none⟩) (by show w2.heap.size ≤ w2.heap.size; omega) (.slice want0_a0 want0_n0 want0_c0)).setCell (p := ⟨w2.heap.size, 1, none⟩) (by show w2.heap.size ≤ w2.heap.size; omega) (.slice want0_a1 want0_n1 want0_c1))
        have FX := Lib.hid ((HX19.out.set 0 (.slice want0_a0 want0_n0 want0_c0)).set 1 (.slice want0_a1 want0_n1 want0_c1))
        have FO := Lib.hid (Kind.kept (K := (kS rBoard)) OW19.out (((Within.refl (w2.heap.size) (w2.heap.size + 1) u_19).setCell (b := w2.heap.size) (by omega) (by omega) 0 (.slice want0_a0 want0_n0 want0_c0)).setCell (b := w2.heap.size) (by omega) (by omega) 1 (.slice want0_a1 want0_n1 want0_c1)) (by omega))
        have fsz := FX.out.lt
        have fsw := ((((Within.refl (w2.heap.size) (w2.heap.size + 1) u_19).setCell (b := w2.heap.size) (by omega) (by omega) 0 (.slice want0_a0 want0_n0 want0_c0)).setCell (b := w2.heap.size) (by omega) (by omega) 1 (.slice want0_a1 want0_n1 want0_c1))).size
        refine wpV_do (by kernel_rfl) (fun K hK => ?_)
        go_simp
        refine hK.out _ _ ⟨box_at pxgr0_2 FB.out, box_at pxgr1_2 FB.out, box_at pxgr2_2 FB.out, box_at pxbd0_2 FB.out, box_at pxbd1_2 FB.out, box_at pxen0_2 FB.out, box_at pxen1_2 FB.out, box_at pxen2_2 FB.out, box_at pxen3_2 FB.out, box_at pxen4_2 FB.out, box_at pxen5_2 FB.out⟩ (fun _ => ?_)
        clear hK K
        (try simp only [Act.put, List.setIfInBounds_toArray, List.set_cons_zero, List.set_cons_succ])
        refine wpV_done ?_
        go_wp2_with fail
        refine NoPanic.normal ?_
        try (go_wp2_with fail)
        go_meet
        exact ⟨w2.heap.size, u_18.heap.size, u_19.heap.size, _, _, _, _, _, _, rfl, rfl, FB, FO, FX.out.cell (i := 0) rfl, FX.out.cell (i := 1) rfl, by omega, by omega, by omega, by omega, by omega, by omega⟩
      case rest =>
        obtain ⟨BQwant0, LOwant0, HIwant0, want0_a0, want0_n0, want0_c0, want0_a1, want0_n1, want0_c1, rfl, rfl, HSq, HOq, qx0, qx1, hz1want0, hz2want0, hz3want0, hz4want0, hz5want0, hz6want0⟩ := hcut
        obtain ⟨w3, hwj⟩ : ∃ V, V = wc := ⟨_, rfl⟩
        rw [← hwj] at HSq HOq qx0 qx1 hz3want0 hz5want0 ⊢
        clear hwj
        have Owant0 := HOq
        clear HOq
        have hb3 := HSq.out
        clear HSq
        have pxwant00_3 := qx0
        clear qx0
        have pxwant01_3 := qx1
        clear qx1
        have HB3 := Lib.hid (Below.next HB2.out hb3)
        have hs3 := hb3.size
        have AJ3 := Lib.hid hb3; clear hb3
        have pxgr0_3 := box_at BXgr0.out HB3.out
        clear pxgr0_2
        have pxgr1_3 := box_at BXgr1.out HB3.out
        clear pxgr1_2
        have pxgr2_3 := box_at BXgr2.out HB3.out
        clear pxgr2_2
        have pxbd0_3 := box_at BXbd0.out HB3.out
        clear pxbd0_2
        have pxbd1_3 := box_at BXbd1.out HB3.out
        clear pxbd1_2
        have pxen0_3 := box_at BXen0.out HB3.out
        clear pxen0_2
        have pxen1_3 := box_at BXen1.out HB3.out
        clear pxen1_2
        have pxen2_3 := box_at BXen2.out HB3.out
        clear pxen2_2
        have pxen3_3 := box_at BXen3.out HB3.out
        clear pxen3_2
        have pxen4_3 := box_at BXen4.out HB3.out
        clear pxen4_2
        have pxen5_3 := box_at BXen5.out HB3.out
        clear pxen5_2
        go_wp2_with fail
        refine (laws_toBoard _ lbd _ ((kS rBoard).rd_below Hbd.out HB3.out) HZbd.out).mono ?_
        rintro e w4 ⟨xbd, rfl, hX, hb4⟩
        have Oxbd := Lib.hid (hX); clear hX
        obtain ⟨xbd_a0, xbd_n0, xbd_c0, xbd_a1, xbd_n1, xbd_c1, rfl, hrest⟩ := rdBoard.1 ((kS rBoard).own_rd Oxbd.out)
        clear hrest
        have HB4 := Lib.hid (Below.next HB3.out hb4)
        have hs4 := hb4.size
        have AJ4 := Lib.hid hb4; clear hb4
        have pxgr0_4 := box_at BXgr0.out HB4.out
        clear pxgr0_3
        have pxgr1_4 := box_at BXgr1.out HB4.out
        clear pxgr1_3
        have pxgr2_4 := box_at BXgr2.out HB4.out
        clear pxgr2_3
        have pxbd0_4 := box_at BXbd0.out HB4.out
        clear pxbd0_3
        have pxbd1_4 := box_at BXbd1.out HB4.out
        clear pxbd1_3
        have pxen0_4 := box_at BXen0.out HB4.out
        clear pxen0_3
        have pxen1_4 := box_at BXen1.out HB4.out
        clear pxen1_3
        have pxen2_4 := box_at BXen2.out HB4.out
        clear pxen2_3
        have pxen3_4 := box_at BXen3.out HB4.out
        clear pxen3_3
        have pxen4_4 := box_at BXen4.out HB4.out
        clear pxen4_3
        have pxen5_4 := box_at BXen5.out HB4.out
        clear pxen5_3
        have pxwant00_4 := box_at pxwant00_3 AJ4.out
        clear pxwant00_3
        have pxwant01_4 := box_at pxwant01_3 AJ4.out
        clear pxwant01_3
        have zl0 : w.heap.size < w4.heap.size := World.block_lt_of_cell? _ _ pxgr0_4
        have zl1 : w.heap.size + 1 < w4.heap.size := World.block_lt_of_cell? _ _ pxbd0_4
        have zl2 : w.heap.size + 1 + 1 < w4.heap.size := World.block_lt_of_cell? _ _ pxen0_4
        have zl3 : BQwant0 < w4.heap.size := World.block_lt_of_cell? _ _ pxwant00_4
        go_wp2_with fail
        clear zl0 zl1 zl2 zl3
        obtain ⟨w5, hw5⟩ : ∃ u, u = w4.alloc (.cells #[.slice xbd_a0 xbd_n0 xbd_c0, .slice xbd_a1 xbd_n1 xbd_c1] 36) := ⟨_, rfl⟩
        rw [← hw5]
        have hb5 : Below w4.heap.size w4 w5 := by rw [hw5]; exact (Below.refl _ _).alloc (Nat.le_refl _) _
        have hlt5 : w4.heap.size < w5.heap.size := by rw [hw5]; simp
        have pxxbd0_5 : w5.cell? ⟨w4.heap.size, 0, none⟩ = some (.slice xbd_a0 xbd_n0 xbd_c0) := by rw [hw5]; simp [go_sem]
        have pxxbd1_5 : w5.cell? ⟨w4.heap.size, 1, none⟩ = some (.slice xbd_a1 xbd_n1 xbd_c1) := by rw [hw5]; simp [go_sem]
        clear hw5
        have HB5 := Lib.hid (Below.next HB4.out hb5)
        have hs5 := hb5.size
        have AJ5 := Lib.hid hb5; clear hb5
        have pxgr0_5 := box_at BXgr0.out HB5.out
        clear pxgr0_4
        have pxgr1_5 := box_at BXgr1.out HB5.out
        clear pxgr1_4
        have pxgr2_5 := box_at BXgr2.out HB5.out
        clear pxgr2_4
        have pxbd0_5 := box_at BXbd0.out HB5.out
        clear pxbd0_4
        have pxbd1_5 := box_at BXbd1.out HB5.out
        clear pxbd1_4
        have pxen0_5 := box_at BXen0.out HB5.out
        clear pxen0_4
        have pxen1_5 := box_at BXen1.out HB5.out
        clear pxen1_4
        have pxen2_5 := box_at BXen2.out HB5.out
        clear pxen2_4
        have pxen3_5 := box_at BXen3.out HB5.out
        clear pxen3_4
        have pxen4_5 := box_at BXen4.out HB5.out
        clear pxen4_4
        have pxen5_5 := box_at BXen5.out HB5.out
        clear pxen5_4
        have pxwant00_5 := box_at pxwant00_4 AJ5.out
        clear pxwant00_4
        have pxwant01_5 := box_at pxwant01_4 AJ5.out
        clear pxwant01_4
        refine (laws_toEntry _ len _ ((kS rEntry).rd_below Hen.out HB5.out) HZen.out).mono ?_
        rintro e w6 ⟨xen, rfl, hX, hb6⟩
        have Oxen := Lib.hid (hX); clear hX
        obtain ⟨xen_a2, xen_n2, xen_c2, xen_a3, xen_n3, xen_c3, xen_a4, xen_n4, xen_c4, xen_a5, xen_n5, xen_c5, rfl, hrest⟩ := rdEntry.1 ((kS rEntry).own_rd Oxen.out)
        clear hrest
        have HB6 := Lib.hid (Below.next HB5.out hb6)
        have hs6 := hb6.size
        have AJ6 := Lib.hid hb6; clear hb6
        have pxgr0_6 := box_at BXgr0.out HB6.out
        clear pxgr0_5
        have pxgr1_6 := box_at BXgr1.out HB6.out
        clear pxgr1_5
        have pxgr2_6 := box_at BXgr2.out HB6.out
        clear pxgr2_5
        have pxbd0_6 := box_at BXbd0.out HB6.out
        clear pxbd0_5
        have pxbd1_6 := box_at BXbd1.out HB6.out
        clear pxbd1_5
        have pxen0_6 := box_at BXen0.out HB6.out
        clear pxen0_5
        have pxen1_6 := box_at BXen1.out HB6.out
        clear pxen1_5
        have pxen2_6 := box_at BXen2.out HB6.out
        clear pxen2_5
        have pxen3_6 := box_at BXen3.out HB6.out
        clear pxen3_5
        have pxen4_6 := box_at BXen4.out HB6.out
        clear pxen4_5
        have pxen5_6 := box_at BXen5.out HB6.out
        clear pxen5_5
        have pxwant00_6 := box_at pxwant00_5 AJ6.out
        clear pxwant00_5
        have pxwant01_6 := box_at pxwant01_5 AJ6.out
        clear pxwant01_5
        have pxxbd0_6 := box_at pxxbd0_5 AJ6.out
        clear pxxbd0_5
        have pxxbd1_6 := box_at pxxbd1_5 AJ6.out
        clear pxxbd1_5
        have zl0 : w.heap.size < w6.heap.size := World.block_lt_of_cell? _ _ pxgr0_6
        have zl1 : w.heap.size + 1 < w6.heap.size := World.block_lt_of_cell? _ _ pxbd0_6
        have zl2 : w.heap.size + 1 + 1 < w6.heap.size := World.block_lt_of_cell? _ _ pxen0_6
        have zl3 : BQwant0 < w6.heap.size := World.block_lt_of_cell? _ _ pxwant00_6
        have zl4 : w4.heap.size < w6.heap.size := World.block_lt_of_cell? _ _ pxxbd0_6
        go_wp2_with fail
        clear zl0 zl1 zl2 zl3 zl4
        obtain ⟨w7, hw7⟩ : ∃ u, u = w6.alloc (.cells #[.int .i64 len.kind, .int .i64 len.author, .slice xen_a2 xen_n2 xen_c2, .slice xen_a3 xen_n3 xen_c3, .slice xen_a4 xen_n4 xen_c4, .slice xen_a5 xen_n5 xen_c5] 44) := ⟨_, rfl⟩
        rw [← hw7]
        have hb7 : Below w6.heap.size w6 w7 := by rw [hw7]; exact (Below.refl _ _).alloc (Nat.le_refl _) _
        have hlt7 : w6.heap.size < w7.heap.size := by rw [hw7]; simp
        have pxxen0_7 : w7.cell? ⟨w6.heap.size, 0, none⟩ = some (.int .i64 len.kind) := by rw [hw7]; simp [go_sem]
        have pxxen1_7 : w7.cell? ⟨w6.heap.size, 1, none⟩ = some (.int .i64 len.author) := by rw [hw7]; simp [go_sem]
        have pxxen2_7 : w7.cell? ⟨w6.heap.size, 2, none⟩ = some (.slice xen_a2 xen_n2 xen_c2) := by rw [hw7]; simp [go_sem]
        have pxxen3_7 : w7.cell? ⟨w6.heap.size, 3, none⟩ = some (.slice xen_a3 xen_n3 xen_c3) := by rw [hw7]; simp [go_sem]
        have pxxen4_7 : w7.cell? ⟨w6.heap.size, 4, none⟩ = some (.slice xen_a4 xen_n4 xen_c4) := by rw [hw7]; simp [go_sem]
        have pxxen5_7 : w7.cell? ⟨w6.heap.size, 5, none⟩ = some (.slice xen_a5 xen_n5 xen_c5) := by rw [hw7]; simp [go_sem]
        clear hw7
        have HB7 := Lib.hid (Below.next HB6.out hb7)
        have hs7 := hb7.size
        have AJ7 := Lib.hid hb7; clear hb7
        have pxgr0_7 := box_at BXgr0.out HB7.out
        clear pxgr0_6
        have pxgr1_7 := box_at BXgr1.out HB7.out
        clear pxgr1_6
        have pxgr2_7 := box_at BXgr2.out HB7.out
        clear pxgr2_6
        have pxbd0_7 := box_at BXbd0.out HB7.out
        clear pxbd0_6
        have pxbd1_7 := box_at BXbd1.out HB7.out
        clear pxbd1_6
        have pxen0_7 := box_at BXen0.out HB7.out
        clear pxen0_6
        have pxen1_7 := box_at BXen1.out HB7.out
        clear pxen1_6
        have pxen2_7 := box_at BXen2.out HB7.out
        clear pxen2_6
        have pxen3_7 := box_at BXen3.out HB7.out
        clear pxen3_6
        have pxen4_7 := box_at BXen4.out HB7.out
        clear pxen4_6
        have pxen5_7 := box_at BXen5.out HB7.out
        clear pxen5_6
        have pxwant00_7 := box_at pxwant00_6 AJ7.out
        clear pxwant00_6
        have pxwant01_7 := box_at pxwant01_6 AJ7.out
        clear pxwant01_6
        have pxxbd0_7 := box_at pxxbd0_6 AJ7.out
        clear pxxbd0_6
        have pxxbd1_7 := box_at pxxbd1_6 AJ7.out
        clear pxxbd1_6
        go_upto_region 11 with fail
        go_cut [12, 13] from 19 (fun vb vf wx => ∃ (BQ LO HI : Nat) (got0_a0 : Option Addr) (got0_n0 : Nat) (got0_c0 : Nat) (got0_a1 : Option Addr) (got0_n1 : Nat) (got0_c1 : Nat), vb = .pointer (some ⟨BQ, 0, none⟩) ∧ vf = .bool (apB gr lbd len) ∧ Hid (Below w7.heap.size w7 wx) ∧ Hid ((kS rBoard).own wx LO HI (.agg #[.slice got0_a0 got0_n0 got0_c0, .slice got0_a1 got0_n1 got0_c1]) lR0) ∧ wx.cell? ⟨BQ, 0, none⟩ = some (.slice got0_a0 got0_n0 got0_c0) ∧ wx.cell? ⟨BQ, 1, none⟩ = some (.slice got0_a1 got0_n1 got0_c1) ∧ w7.heap.size ≤ LO ∧ LO ≤ HI ∧ HI ≤ wx.heap.size ∧ w7.heap.size ≤ BQ ∧ BQ < wx.heap.size ∧ (BQ < LO ∨ HI ≤ BQ))
        case first =>
          refine wp_region_noPanic ?_
          refine wp_region_V (fun w' => w'.cell? ⟨w.heap.size, 0, none⟩ = some (.int .i64 gr.p) ∧ w'.cell? ⟨w.heap.size, 1, none⟩ = some (.int .i64 gr.q) ∧ w'.cell? ⟨w.heap.size, 2, none⟩ = some (.int .i64 gr.g) ∧ w'.cell? ⟨w.heap.size + 1, 0, none⟩ = some (.slice bd_a0 bd_n0 bd_c0) ∧ w'.cell? ⟨w.heap.size + 1, 1, none⟩ = some (.slice bd_a1 bd_n1 bd_c1) ∧ w'.cell? ⟨w.heap.size + 1 + 1, 0, none⟩ = some (.int .i64 len.kind) ∧ w'.cell? ⟨w.heap.size + 1 + 1, 1, none⟩ = some (.int .i64 len.author) ∧ w'.cell? ⟨w.heap.size + 1 + 1, 2, none⟩ = some (.slice en_a2 en_n2 en_c2) ∧ w'.cell? ⟨w.heap.size + 1 + 1, 3, none⟩ = some (.slice en_a3 en_n3 en_c3) ∧ w'.cell? ⟨w.heap.size + 1 + 1, 4, none⟩ = some (.slice en_a4 en_n4 en_c4) ∧ w'.cell? ⟨w.heap.size + 1 + 1, 5, none⟩ = some (.slice en_a5 en_n5 en_c5) ∧ w'.cell? ⟨BQwant0, 0, none⟩ = some (.slice want0_a0 want0_n0 want0_c0) ∧ w'.cell? ⟨BQwant0, 1, none⟩ = some (.slice want0_a1 want0_n1 want0_c1) ∧ w'.cell? ⟨w4.heap.size, 0, none⟩ = some (.slice xbd_a0 xbd_n0 xbd_c0) ∧ w'.cell? ⟨w4.heap.size, 1, none⟩ = some (.slice xbd_a1 xbd_n1 xbd_c1) ∧ w'.cell? ⟨w6.heap.size, 0, none⟩ = some (.int .i64 len.kind) ∧ w'.cell? ⟨w6.heap.size, 1, none⟩ = some (.int .i64 len.author) ∧ w'.cell? ⟨w6.heap.size, 2, none⟩ = some (.slice xen_a2 xen_n2 xen_c2) ∧ w'.cell? ⟨w6.heap.size, 3, none⟩ = some (.slice xen_a3 xen_n3 xen_c3) ∧ w'.cell? ⟨w6.heap.size, 4, none⟩ = some (.slice xen_a4 xen_n4 xen_c4) ∧ w'.cell? ⟨w6.heap.size, 5, none⟩ = some (.slice xen_a5 xen_n5 xen_c5)) 13 10 (.rd 0 (.rd 2 (.rd 3 (.alt 1 (.alt 4 (.rd 5 (.rd 6 (.rd 7 (.alt 8 (.alt 9 .done .nil) .nil)))) (.alt 8 (.alt 4 (.rd 5 (.rd 6 (.rd 7 (.alt 9 .done .nil)))) .nil) .nil)) (.alt 8 (.alt 1 (.alt 4 (.rd 5 (.rd 6 (.rd 7 (.alt 9 .done .nil)))) .nil) .nil) .nil))))) [10] (by kernel_rfl) (by kernel_rfl) rfl (fun _ _ _ _ _ h => h) ⟨box_at pxgr0_7 (Below.refl _ _).drew, box_at pxgr1_7 (Below.refl _ _).drew, box_at pxgr2_7 (Below.refl _ _).drew, box_at pxbd0_7 (Below.refl _ _).drew, box_at pxbd1_7 (Below.refl _ _).drew, box_at pxen0_7 (Below.refl _ _).drew, box_at pxen1_7 (Below.refl _ _).drew, box_at pxen2_7 (Below.refl _ _).drew, box_at pxen3_7 (Below.refl _ _).drew, box_at pxen4_7 (Below.refl _ _).drew, box_at pxen5_7 (Below.refl _ _).drew, box_at pxwant00_7 (Below.refl _ _).drew, box_at pxwant01_7 (Below.refl _ _).drew, box_at pxxbd0_7 (Below.refl _ _).drew, box_at pxxbd1_7 (Below.refl _ _).drew, box_at pxxen0_7 (Below.refl _ _).drew, box_at pxxen1_7 (Below.refl _ _).drew, box_at pxxen2_7 (Below.refl _ _).drew, box_at pxxen3_7 (Below.refl _ _).drew, box_at pxxen4_7 (Below.refl _ _).drew, box_at pxxen5_7 (Below.refl _ _).drew⟩ ?_
          simp only [pickV, pickN, List.getElem?_cons_zero, List.getElem?_cons_succ]
          have HC0 : Hid (Below w7.heap.size w7 w7.drew) := (Below.refl _ _).drew
          repeat (refine' wpV_read _ (by kernel_rfl) (fun w' hS' => ?_) ?_; rotate_left; · ((try dsimp only at hS'); go_simp; (try with_reducible rfl)); (try simp only [Act.put, List.setIfInBounds_toArray, List.set_cons_zero, List.set_cons_succ]))
          refine wpV_or (by kernel_rfl) (fun K hK => ?_) ?_
          · go_simp
            go_at_call 18
            refine (laws_toGroup gr _).mono ?_
            rintro e u_1 ⟨rfl, hq⟩
            have HC_1 := Lib.hid (Below.next HC0.out hq)
            have hsz_1 := hq.size
            have hsw_1 := HC_1.out.size
            clear hq
            refine hK.out _ _ ⟨box_at pxgr0_7 HC_1.out, box_at pxgr1_7 HC_1.out, box_at pxgr2_7 HC_1.out, box_at pxbd0_7 HC_1.out, box_at pxbd1_7 HC_1.out, box_at pxen0_7 HC_1.out, box_at pxen1_7 HC_1.out, box_at pxen2_7 HC_1.out, box_at pxen3_7 HC_1.out, box_at pxen4_7 HC_1.out, box_at pxen5_7 HC_1.out, box_at pxwant00_7 HC_1.out, box_at pxwant01_7 HC_1.out, box_at pxxbd0_7 HC_1.out, box_at pxxbd1_7 HC_1.out, box_at pxxen0_7 HC_1.out, box_at pxxen1_7 HC_1.out, box_at pxxen2_7 HC_1.out, box_at pxxen3_7 HC_1.out, box_at pxxen4_7 HC_1.out, box_at pxxen5_7 HC_1.out⟩ (fun _ => ?_)
            clear hK K
            (try simp only [Act.put, List.setIfInBounds_toArray, List.set_cons_zero, List.set_cons_succ])
            refine wpV_or (by kernel_rfl) (fun K hK => ?_) ?_
            · go_simp
              go_at_call 21
              refine (impl_AppendEntry gr _ lbd _ len _ Jgr.out HYbd.out ((kS rBoard).rd_below ((kS rBoard).own_rd (Kind.next (K := kS rBoard) (Kind.next (K := kS rBoard) (Kind.next (K := kS rBoard) Oxbd.out AJ5.out) AJ6.out) AJ7.out)) HC_1.out) HYen.out ((kS rEntry).rd_below ((kS rEntry).own_rd (Kind.next (K := kS rEntry) Oxen.out AJ7.out)) HC_1.out)).mono ?_
              rintro e u_2 ⟨got0, rfl, hX, hq⟩
              rw [HR0.out] at hX
              have OW2 := Lib.hid hX
              clear hX
              obtain ⟨got0_a0, got0_n0, got0_c0, got0_a1, got0_n1, got0_c1, rfl, hrest⟩ := rdBoard.1 ((kS rBoard).own_rd OW2.out)
              clear hrest
              have HC_2 := Lib.hid (Below.next HC_1.out hq)
              have hsz_2 := hq.size
              have hsw_2 := HC_2.out.size
              clear hq
              refine hK.out _ _ ⟨box_at pxgr0_7 HC_2.out, box_at pxgr1_7 HC_2.out, box_at pxgr2_7 HC_2.out, box_at pxbd0_7 HC_2.out, box_at pxbd1_7 HC_2.out, box_at pxen0_7 HC_2.out, box_at pxen1_7 HC_2.out, box_at pxen2_7 HC_2.out, box_at pxen3_7 HC_2.out, box_at pxen4_7 HC_2.out, box_at pxen5_7 HC_2.out, box_at pxwant00_7 HC_2.out, box_at pxwant01_7 HC_2.out, box_at pxxbd0_7 HC_2.out, box_at pxxbd1_7 HC_2.out, box_at pxxen0_7 HC_2.out, box_at pxxen1_7 HC_2.out, box_at pxxen2_7 HC_2.out, box_at pxxen3_7 HC_2.out, box_at pxxen4_7 HC_2.out, box_at pxxen5_7 HC_2.out⟩ (fun _ => ?_)
              clear hK K
              (try simp only [Act.put, List.setIfInBounds_toArray, List.set_cons_zero, List.set_cons_succ])
              repeat (refine' wpV_read _ (by kernel_rfl) (fun w' hS' => ?_) ?_; rotate_left; · ((try dsimp only at hS'); go_simp; (try with_reducible rfl)); (try simp only [Act.put, List.setIfInBounds_toArray, List.set_cons_zero, List.set_cons_succ]))
              refine wpV_do (by kernel_rfl) (fun K hK => ?_)
              go_simp
              obtain ⟨u_3, hX⟩ : ∃ x0, x0 = (u_2.alloc (.cells #[.slice none 0 0, .slice none 0 0] 36)) := ⟨_, rfl⟩
              have hq : Below u_2.heap.size u_2 u_3 := by rw [hX]; exact ((Below.refl _ _).alloc (Nat.le_refl _) _)
              have HX3 : Hid (BoxN u_3 u_2.heap.size 36 [.slice none 0 0, .slice none 0 0]) := by unfold Hid; rw [hX]; exact BoxN.new u_2 [.slice none 0 0, .slice none 0 0] 36
              have hlt3 := HX3.out.lt
              rw [← hX]
              clear hX
              have HC_3 := Lib.hid (Below.next HC_2.out hq)
              have hsz_3 := hq.size
              have hsw_3 := HC_3.out.size
              have OW3 := Lib.hid (Kind.next (K := (kS rBoard)) OW2.out hq)
              clear hq
              refine hK.out _ _ ⟨box_at pxgr0_7 HC_3.out, box_at pxgr1_7 HC_3.out, box_at pxgr2_7 HC_3.out, box_at pxbd0_7 HC_3.out, box_at pxbd1_7 HC_3.out, box_at pxen0_7 HC_3.out, box_at pxen1_7 HC_3.out, box_at pxen2_7 HC_3.out, box_at pxen3_7 HC_3.out, box_at pxen4_7 HC_3.out, box_at pxen5_7 HC_3.out, box_at pxwant00_7 HC_3.out, box_at pxwant01_7 HC_3.out, box_at pxxbd0_7 HC_3.out, box_at pxxbd1_7 HC_3.out, box_at pxxen0_7 HC_3.out, box_at pxxen1_7 HC_3.out, box_at pxxen2_7 HC_3.out, box_at pxxen3_7 HC_3.out, box_at pxxen4_7 HC_3.out, box_at pxxen5_7 HC_3.out⟩ (fun _ => ?_)
              clear hK K
              (try simp only [Act.put, List.setIfInBounds_toArray, List.set_cons_zero, List.set_cons_succ])
              have r0 := HX3.out.cell (i := 0) rfl
              have r1 := HX3.out.cell (i := 1) rfl
              have fr := fun j => HX3.out.frozen j
              have FB := Lib.hid ((HC_3.out.setCell (p := ⟨u_2.heap.size, 0, none⟩) (by show w7.heap.size ≤ u_2.heap.size; omega) (.slice got0_a0 got0_n0 got0_c0)).setCell (p := ⟨u_2.heap.size, 1, none⟩) (by show w7.heap.size ≤ u_2.heap.size; omega) (.slice got0_a1 got0_n1 got0_c1))
              have FX := Lib.hid ((HX3.out.set 0 (.slice got0_a0 got0_n0 got0_c0)).set 1 (.slice got0_a1 got0_n1 got0_c1))
              have FO := Lib.hid (Kind.kept (K := (kS rBoard)) OW3.out (((Within.refl (u_2.heap.size) (u_2.heap.size + 1) u_3).setCell (b := u_2.heap.size) (by omega) (by omega) 0 (.slice got0_a0 got0_n0 got0_c0)).setCell (b := u_2.heap.size) (by omega) (by omega) 1 (.slice got0_a1 got0_n1 got0_c1)) (by omega))
              have fsz := FX.out.lt
              have fsw := ((((Within.refl (u_2.heap.size) (u_2.heap.size + 1) u_3).setCell (b := u_2.heap.size) (by omega) (by omega) 0 (.slice got0_a0 got0_n0 got0_c0)).setCell (b := u_2.heap.size) (by omega) (by omega) 1 (.slice got0_a1 got0_n1 got0_c1))).size
              refine wpV_do (by kernel_rfl) (fun K hK => ?_)
              go_simp
              refine hK.out _ _ ⟨box_at pxgr0_7 FB.out, box_at pxgr1_7 FB.out, box_at pxgr2_7 FB.out, box_at pxbd0_7 FB.out, box_at pxbd1_7 FB.out, box_at pxen0_7 FB.out, box_at pxen1_7 FB.out, box_at pxen2_7 FB.out, box_at pxen3_7 FB.out, box_at pxen4_7 FB.out, box_at pxen5_7 FB.out, box_at pxwant00_7 FB.out, box_at pxwant01_7 FB.out, box_at pxxbd0_7 FB.out, box_at pxxbd1_7 FB.out, box_at pxxen0_7 FB.out, box_at pxxen1_7 FB.out, box_at pxxen2_7 FB.out, box_at pxxen3_7 FB.out, box_at pxxen4_7 FB.out, box_at pxxen5_7 FB.out⟩ (fun _ => ?_)
              clear hK K
              (try simp only [Act.put, List.setIfInBounds_toArray, List.set_cons_zero, List.set_cons_succ])
              refine wpV_done ?_
              go_wp2_with fail
              refine NoPanic.normal ?_
              try (go_wp2_with fail)
              go_meet
              exact ⟨u_2.heap.size, u_1.heap.size, u_2.heap.size, _, _, _, _, _, _, rfl, rfl, FB, FO, FX.out.cell (i := 0) rfl, FX.out.cell (i := 1) rfl, by omega, by omega, by omega, by omega, by omega, by omega⟩
            refine wpV_do (by kernel_rfl) (fun K hK => ?_)
            go_simp
            obtain ⟨u_4, hX⟩ : ∃ x0, x0 = (u_1.alloc (.cells #[.slice none 0 0, .slice none 0 0] 36)) := ⟨_, rfl⟩
            have hq : Below u_1.heap.size u_1 u_4 := by rw [hX]; exact ((Below.refl _ _).alloc (Nat.le_refl _) _)
            have HX4 : Hid (BoxN u_4 u_1.heap.size 36 [.slice none 0 0, .slice none 0 0]) := by unfold Hid; rw [hX]; exact BoxN.new u_1 [.slice none 0 0, .slice none 0 0] 36
            have hlt4 := HX4.out.lt
            rw [← hX]
            clear hX
            have HC_4 := Lib.hid (Below.next HC_1.out hq)
            have hsz_4 := hq.size
            have hsw_4 := HC_4.out.size
            clear hq
            refine hK.out _ _ ⟨box_at pxgr0_7 HC_4.out, box_at pxgr1_7 HC_4.out, box_at pxgr2_7 HC_4.out, box_at pxbd0_7 HC_4.out, box_at pxbd1_7 HC_4.out, box_at pxen0_7 HC_4.out, box_at pxen1_7 HC_4.out, box_at pxen2_7 HC_4.out, box_at pxen3_7 HC_4.out, box_at pxen4_7 HC_4.out, box_at pxen5_7 HC_4.out, box_at pxwant00_7 HC_4.out, box_at pxwant01_7 HC_4.out, box_at pxxbd0_7 HC_4.out, box_at pxxbd1_7 HC_4.out, box_at pxxen0_7 HC_4.out, box_at pxxen1_7 HC_4.out, box_at pxxen2_7 HC_4.out, box_at pxxen3_7 HC_4.out, box_at pxxen4_7 HC_4.out, box_at pxxen5_7 HC_4.out⟩ (fun _ => ?_)
            clear hK K
            (try simp only [Act.put, List.setIfInBounds_toArray, List.set_cons_zero, List.set_cons_succ])
            refine wpV_do (by kernel_rfl) (fun K hK => ?_)
            go_simp
            go_at_call 21
            refine (impl_AppendEntry gr _ lbd _ len _ Jgr.out HYbd.out ((kS rBoard).rd_below ((kS rBoard).own_rd (Kind.next (K := kS rBoard) (Kind.next (K := kS rBoard) (Kind.next (K := kS rBoard) Oxbd.out AJ5.out) AJ6.out) AJ7.out)) HC_4.out) HYen.out ((kS rEntry).rd_below ((kS rEntry).own_rd (Kind.next (K := kS rEntry) Oxen.out AJ7.out)) HC_4.out)).mono ?_
            rintro e u_5 ⟨got0, rfl, hX, hq⟩
            rw [HR0.out] at hX
            have OW5 := Lib.hid hX
            clear hX
            obtain ⟨got0_a0, got0_n0, got0_c0, got0_a1, got0_n1, got0_c1, rfl, hrest⟩ := rdBoard.1 ((kS rBoard).own_rd OW5.out)
            clear hrest
            have HC_5 := Lib.hid (Below.next HC_4.out hq)
            have hsz_5 := hq.size
            have hsw_5 := HC_5.out.size
            have HX5 := Lib.hid (HX4.out.below hq)
            clear hq
            refine hK.out _ _ ⟨box_at pxgr0_7 HC_5.out, box_at pxgr1_7 HC_5.out, box_at pxgr2_7 HC_5.out, box_at pxbd0_7 HC_5.out, box_at pxbd1_7 HC_5.out, box_at pxen0_7 HC_5.out, box_at pxen1_7 HC_5.out, box_at pxen2_7 HC_5.out, box_at pxen3_7 HC_5.out, box_at pxen4_7 HC_5.out, box_at pxen5_7 HC_5.out, box_at pxwant00_7 HC_5.out, box_at pxwant01_7 HC_5.out, box_at pxxbd0_7 HC_5.out, box_at pxxbd1_7 HC_5.out, box_at pxxen0_7 HC_5.out, box_at pxxen1_7 HC_5.out, box_at pxxen2_7 HC_5.out, box_at pxxen3_7 HC_5.out, box_at pxxen4_7 HC_5.out, box_at pxxen5_7 HC_5.out⟩ (fun _ => ?_)
            clear hK K
            (try simp only [Act.put, List.setIfInBounds_toArray, List.set_cons_zero, List.set_cons_succ])
            repeat (refine' wpV_read _ (by kernel_rfl) (fun w' hS' => ?_) ?_; rotate_left; · ((try dsimp only at hS'); go_simp; (try with_reducible rfl)); (try simp only [Act.put, List.setIfInBounds_toArray, List.set_cons_zero, List.set_cons_succ]))
            have r0 := HX5.out.cell (i := 0) rfl
            have r1 := HX5.out.cell (i := 1) rfl
            have fr := fun j => HX5.out.frozen j
            have FB := Lib.hid ((HC_5.out.setCell (p := ⟨u_1.heap.size, 0, none⟩) (by show w7.heap.size ≤ u_1.heap.size; omega) (.slice got0_a0 got0_n0 got0_c0)).setCell (p := ⟨u_1.heap.size, 1, none⟩) (by show w7.heap.size ≤ u_1.heap.size; omega) (.slice got0_a1 got0_n1 got0_c1))
            have FX := Lib.hid ((HX5.out.set 0 (.slice got0_a0 got0_n0 got0_c0)).set 1 (.slice got0_a1 got0_n1 got0_c1))
            have FO := Lib.hid (Kind.kept (K := (kS rBoard)) OW5.out (((Within.refl (u_1.heap.size) (u_1.heap.size + 1) u_5).setCell (b := u_1.heap.size) (by omega) (by omega) 0 (.slice got0_a0 got0_n0 got0_c0)).setCell (b := u_1.heap.size) (by omega) (by omega) 1 (.slice got0_a1 got0_n1 got0_c1)) (by omega))
            have fsz := FX.out.lt
            have fsw := ((((Within.refl (u_1.heap.size) (u_1.heap.size + 1) u_5).setCell (b := u_1.heap.size) (by omega) (by omega) 0 (.slice got0_a0 got0_n0 got0_c0)).setCell (b := u_1.heap.size) (by omega) (by omega) 1 (.slice got0_a1 got0_n1 got0_c1))).size
            refine wpV_do (by kernel_rfl) (fun K hK => ?_)
            go_simp
            refine hK.out _ _ ⟨box_at pxgr0_7 FB.out, box_at pxgr1_7 FB.out, box_at pxgr2_7 FB.out, box_at pxbd0_7 FB.out, box_at pxbd1_7 FB.out, box_at pxen0_7 FB.out, box_at pxen1_7 FB.out, box_at pxen2_7 FB.out, box_at pxen3_7 FB.out, box_at pxen4_7 FB.out, box_at pxen5_7 FB.out, box_at pxwant00_7 FB.out, box_at pxwant01_7 FB.out, box_at pxxbd0_7 FB.out, box_at pxxbd1_7 FB.out, box_at pxxen0_7 FB.out, box_at pxxen1_7 FB.out, box_at pxxen2_7 FB.out, box_at pxxen3_7 FB.out, box_at pxxen4_7 FB.out, box_at pxxen5_7 FB.out⟩ (fun _ => ?_)
            clear hK K
            (try simp only [Act.put, List.setIfInBounds_toArray, List.set_cons_zero, List.set_cons_succ])
            refine wpV_done ?_
            go_wp2_with fail
            refine NoPanic.normal ?_
            try (go_wp2_with fail)
            go_meet
            exact ⟨u_1.heap.size, u_4.heap.size, u_5.heap.size, _, _, _, _, _, _, rfl, rfl, FB, FO, FX.out.cell (i := 0) rfl, FX.out.cell (i := 1) rfl, by omega, by omega, by omega, by omega, by omega, by omega⟩
          refine wpV_do (by kernel_rfl) (fun K hK => ?_)
          go_simp
          obtain ⟨u_6, hX⟩ : ∃ x0, x0 = (w7.alloc (.cells #[.slice none 0 0, .slice none 0 0] 36)).drew := ⟨_, rfl⟩
          have hq : Below w7.heap.size w7 u_6 := by rw [hX]; exact ((Below.refl _ _).alloc (Nat.le_refl _) _).drew
          have HX6 : Hid (BoxN u_6 w7.heap.size 36 [.slice none 0 0, .slice none 0 0]) := by unfold Hid; rw [hX]; exact BoxN.below (BoxN.new w7 [.slice none 0 0, .slice none 0 0] 36) (Below.refl _ _).drew
          have hlt6 := HX6.out.lt
          rw [← hX]
          clear hX
          have HC_6 : Hid (Below w7.heap.size w7 u_6) := hq
          have hsz_6 := hq.size
          have hsw_6 := HC_6.out.size
          clear hq
          refine hK.out _ _ ⟨box_at pxgr0_7 HC_6.out, box_at pxgr1_7 HC_6.out, box_at pxgr2_7 HC_6.out, box_at pxbd0_7 HC_6.out, box_at pxbd1_7 HC_6.out, box_at pxen0_7 HC_6.out, box_at pxen1_7 HC_6.out, box_at pxen2_7 HC_6.out, box_at pxen3_7 HC_6.out, box_at pxen4_7 HC_6.out, box_at pxen5_7 HC_6.out, box_at pxwant00_7 HC_6.out, box_at pxwant01_7 HC_6.out, box_at pxxbd0_7 HC_6.out, box_at pxxbd1_7 HC_6.out, box_at pxxen0_7 HC_6.out, box_at pxxen1_7 HC_6.out, box_at pxxen2_7 HC_6.out, box_at pxxen3_7 HC_6.out, box_at pxxen4_7 HC_6.out, box_at pxxen5_7 HC_6.out⟩ (fun _ => ?_)
          clear hK K
          (try simp only [Act.put, List.setIfInBounds_toArray, List.set_cons_zero, List.set_cons_succ])
          refine wpV_do (by kernel_rfl) (fun K hK => ?_)
          go_simp
          go_at_call 18
          refine (laws_toGroup gr _).mono ?_
          rintro e u_7 ⟨rfl, hq⟩
          have HC_7 := Lib.hid (Below.next HC_6.out hq)
          have hsz_7 := hq.size
          have hsw_7 := HC_7.out.size
          have HX7 := Lib.hid (HX6.out.below hq)
          clear hq
          refine hK.out _ _ ⟨box_at pxgr0_7 HC_7.out, box_at pxgr1_7 HC_7.out, box_at pxgr2_7 HC_7.out, box_at pxbd0_7 HC_7.out, box_at pxbd1_7 HC_7.out, box_at pxen0_7 HC_7.out, box_at pxen1_7 HC_7.out, box_at pxen2_7 HC_7.out, box_at pxen3_7 HC_7.out, box_at pxen4_7 HC_7.out, box_at pxen5_7 HC_7.out, box_at pxwant00_7 HC_7.out, box_at pxwant01_7 HC_7.out, box_at pxxbd0_7 HC_7.out, box_at pxxbd1_7 HC_7.out, box_at pxxen0_7 HC_7.out, box_at pxxen1_7 HC_7.out, box_at pxxen2_7 HC_7.out, box_at pxxen3_7 HC_7.out, box_at pxxen4_7 HC_7.out, box_at pxxen5_7 HC_7.out⟩ (fun _ => ?_)
          clear hK K
          (try simp only [Act.put, List.setIfInBounds_toArray, List.set_cons_zero, List.set_cons_succ])
          refine wpV_do (by kernel_rfl) (fun K hK => ?_)
          go_simp
          go_at_call 21
          refine (impl_AppendEntry gr _ lbd _ len _ Jgr.out HYbd.out ((kS rBoard).rd_below ((kS rBoard).own_rd (Kind.next (K := kS rBoard) (Kind.next (K := kS rBoard) (Kind.next (K := kS rBoard) Oxbd.out AJ5.out) AJ6.out) AJ7.out)) HC_7.out) HYen.out ((kS rEntry).rd_below ((kS rEntry).own_rd (Kind.next (K := kS rEntry) Oxen.out AJ7.out)) HC_7.out)).mono ?_
          rintro e u_8 ⟨got0, rfl, hX, hq⟩
          rw [HR0.out] at hX
          have OW8 := Lib.hid hX
          clear hX
          obtain ⟨got0_a0, got0_n0, got0_c0, got0_a1, got0_n1, got0_c1, rfl, hrest⟩ := rdBoard.1 ((kS rBoard).own_rd OW8.out)
          clear hrest
          have HC_8 := Lib.hid (Below.next HC_7.out hq)
          have hsz_8 := hq.size
          have hsw_8 := HC_8.out.size
          have HX8 := Lib.hid (HX7.out.below hq)
          clear hq
          refine hK.out _ _ ⟨box_at pxgr0_7 HC_8.out, box_at pxgr1_7 HC_8.out, box_at pxgr2_7 HC_8.out, box_at pxbd0_7 HC_8.out, box_at pxbd1_7 HC_8.out, box_at pxen0_7 HC_8.out, box_at pxen1_7 HC_8.out, box_at pxen2_7 HC_8.out, box_at pxen3_7 HC_8.out, box_at pxen4_7 HC_8.out, box_at pxen5_7 HC_8.out, box_at pxwant00_7 HC_8.out, box_at pxwant01_7 HC_8.out, box_at pxxbd0_7 HC_8.out, box_at pxxbd1_7 HC_8.out, box_at pxxen0_7 HC_8.out, box_at pxxen1_7 HC_8.out, box_at pxxen2_7 HC_8.out, box_at pxxen3_7 HC_8.out, box_at pxxen4_7 HC_8.out, box_at pxxen5_7 HC_8.out⟩ (fun _ => ?_)
          clear hK K
          (try simp only [Act.put, List.setIfInBounds_toArray, List.set_cons_zero, List.set_cons_succ])
          repeat (refine' wpV_read _ (by kernel_rfl) (fun w' hS' => ?_) ?_; rotate_left; · ((try dsimp only at hS'); go_simp; (try with_reducible rfl)); (try simp only [Act.put, List.setIfInBounds_toArray, List.set_cons_zero, List.set_cons_succ]))
          have r0 := HX8.out.cell (i := 0) rfl
          have r1 := HX8.out.cell (i := 1) rfl
          have fr := fun j => HX8.out.frozen j
          have FB := Lib.hid ((HC_8.out.setCell (p := ⟨w7.heap.size, 0, none⟩) (by show w7.heap.size ≤ w7.heap.size; omega) (.slice got0_a0 got0_n0 got0_c0)).setCell (p := ⟨w7.heap.size, 1, none⟩) (by show w7.heap.size ≤ w7.heap.size; omega) (.slice got0_a1 got0_n1 got0_c1))
          have FX := Lib.hid ((HX8.out.set 0 (.slice got0_a0 got0_n0 got0_c0)).set 1 (.slice got0_a1 got0_n1 got0_c1))
          have FO := Lib.hid (Kind.kept (K := (kS rBoard)) OW8.out (((Within.refl (w7.heap.size) (w7.heap.size + 1) u_8).setCell (b := w7.heap.size) (by omega) (by omega) 0 (.slice got0_a0 got0_n0 got0_c0)).setCell (b := w7.heap.size) (by omega) (by omega) 1 (.slice got0_a1 got0_n1 got0_c1)) (by omega))
          have fsz := FX.out.lt
          have fsw := ((((Within.refl (w7.heap.size) (w7.heap.size + 1) u_8).setCell (b := w7.heap.size) (by omega) (by omega) 0 (.slice got0_a0 got0_n0 got0_c0)).setCell (b := w7.heap.size) (by omega) (by omega) 1 (.slice got0_a1 got0_n1 got0_c1))).size
          refine wpV_do (by kernel_rfl) (fun K hK => ?_)
          go_simp
          refine hK.out _ _ ⟨box_at pxgr0_7 FB.out, box_at pxgr1_7 FB.out, box_at pxgr2_7 FB.out, box_at pxbd0_7 FB.out, box_at pxbd1_7 FB.out, box_at pxen0_7 FB.out, box_at pxen1_7 FB.out, box_at pxen2_7 FB.out, box_at pxen3_7 FB.out, box_at pxen4_7 FB.out, box_at pxen5_7 FB.out, box_at pxwant00_7 FB.out, box_at pxwant01_7 FB.out, box_at pxxbd0_7 FB.out, box_at pxxbd1_7 FB.out, box_at pxxen0_7 FB.out, box_at pxxen1_7 FB.out, box_at pxxen2_7 FB.out, box_at pxxen3_7 FB.out, box_at pxxen4_7 FB.out, box_at pxxen5_7 FB.out⟩ (fun _ => ?_)
          clear hK K
          (try simp only [Act.put, List.setIfInBounds_toArray, List.set_cons_zero, List.set_cons_succ])
          refine wpV_done ?_
          go_wp2_with fail
          refine NoPanic.normal ?_
          try (go_wp2_with fail)
          go_meet
          exact ⟨w7.heap.size, u_7.heap.size, u_8.heap.size, _, _, _, _, _, _, rfl, rfl, FB, FO, FX.out.cell (i := 0) rfl, FX.out.cell (i := 1) rfl, by omega, by omega, by omega, by omega, by omega, by omega⟩
        case rest =>
          obtain ⟨BQgot0, LOgot0, HIgot0, got0_a0, got0_n0, got0_c0, got0_a1, got0_n1, got0_c1, rfl, rfl, HSq, HOq, qx0, qx1, hz1got0, hz2got0, hz3got0, hz4got0, hz5got0, hz6got0⟩ := hcut
          obtain ⟨w8, hwj⟩ : ∃ V, V = wc := ⟨_, rfl⟩
          rw [← hwj] at HSq HOq qx0 qx1 hz3got0 hz5got0 ⊢
          clear hwj
          have Ogot0 := HOq
          clear HOq
          have hb8 := HSq.out
          clear HSq
          have pxgot00_8 := qx0
          clear qx0
          have pxgot01_8 := qx1
          clear qx1
          have HB8 := Lib.hid (Below.next HB7.out hb8)
          have hs8 := hb8.size
          have AJ8 := Lib.hid hb8; clear hb8
          have pxgr0_8 := box_at BXgr0.out HB8.out
          clear pxgr0_7
          have pxgr1_8 := box_at BXgr1.out HB8.out
          clear pxgr1_7
          have pxgr2_8 := box_at BXgr2.out HB8.out
          clear pxgr2_7
          have pxbd0_8 := box_at BXbd0.out HB8.out
          clear pxbd0_7
          have pxbd1_8 := box_at BXbd1.out HB8.out
          clear pxbd1_7
          have pxen0_8 := box_at BXen0.out HB8.out
          clear pxen0_7
          have pxen1_8 := box_at BXen1.out HB8.out
          clear pxen1_7
          have pxen2_8 := box_at BXen2.out HB8.out
          clear pxen2_7
          have pxen3_8 := box_at BXen3.out HB8.out
          clear pxen3_7
          have pxen4_8 := box_at BXen4.out HB8.out
          clear pxen4_7
          have pxen5_8 := box_at BXen5.out HB8.out
          clear pxen5_7
          have pxwant00_8 := box_at pxwant00_7 AJ8.out
          clear pxwant00_7
          have pxwant01_8 := box_at pxwant01_7 AJ8.out
          clear pxwant01_7
          have pxxbd0_8 := box_at pxxbd0_7 AJ8.out
          clear pxxbd0_7
          have pxxbd1_8 := box_at pxxbd1_7 AJ8.out
          clear pxxbd1_7
          have pxxen0_8 := box_at pxxen0_7 AJ8.out
          clear pxxen0_7
          have pxxen1_8 := box_at pxxen1_7 AJ8.out
          clear pxxen1_7
          have pxxen2_8 := box_at pxxen2_7 AJ8.out
          clear pxxen2_7
          have pxxen3_8 := box_at pxxen3_7 AJ8.out
          clear pxxen3_7
          have pxxen4_8 := box_at pxxen4_7 AJ8.out
          clear pxxen4_7
          have pxxen5_8 := box_at pxxen5_7 AJ8.out
          clear pxxen5_7
          go_wp2_with fail
          refine (laws_eqBoard _ _ _ _ _ ((kS rBoard).own_rd Ogot0.out) ((kS rBoard).own_rd (Kind.next (K := kS rBoard) (Kind.next (K := kS rBoard) (Kind.next (K := kS rBoard) (Kind.next (K := kS rBoard) (Kind.next (K := kS rBoard) Owant0.out AJ4.out) AJ5.out) AJ6.out) AJ7.out) AJ8.out))).mono ?_
          rintro e w9 ⟨rfl, hb9⟩
          rw [decide_eq_true rfl]
          have HB9 := Lib.hid (Below.next HB8.out hb9)
          have hs9 := hb9.size
          have AJ9 := Lib.hid hb9; clear hb9
          have pxgr0_9 := box_at BXgr0.out HB9.out
          clear pxgr0_8
          have pxgr1_9 := box_at BXgr1.out HB9.out
          clear pxgr1_8
          have pxgr2_9 := box_at BXgr2.out HB9.out
          clear pxgr2_8
          have pxbd0_9 := box_at BXbd0.out HB9.out
          clear pxbd0_8
          have pxbd1_9 := box_at BXbd1.out HB9.out
          clear pxbd1_8
          have pxen0_9 := box_at BXen0.out HB9.out
          clear pxen0_8
          have pxen1_9 := box_at BXen1.out HB9.out
          clear pxen1_8
          have pxen2_9 := box_at BXen2.out HB9.out
          clear pxen2_8
          have pxen3_9 := box_at BXen3.out HB9.out
          clear pxen3_8
          have pxen4_9 := box_at BXen4.out HB9.out
          clear pxen4_8
          have pxen5_9 := box_at BXen5.out HB9.out
          clear pxen5_8
          have pxwant00_9 := box_at pxwant00_8 AJ9.out
          clear pxwant00_8
          have pxwant01_9 := box_at pxwant01_8 AJ9.out
          clear pxwant01_8
          have pxxbd0_9 := box_at pxxbd0_8 AJ9.out
          clear pxxbd0_8
          have pxxbd1_9 := box_at pxxbd1_8 AJ9.out
          clear pxxbd1_8
          have pxxen0_9 := box_at pxxen0_8 AJ9.out
          clear pxxen0_8
          have pxxen1_9 := box_at pxxen1_8 AJ9.out
          clear pxxen1_8
          have pxxen2_9 := box_at pxxen2_8 AJ9.out
          clear pxxen2_8
          have pxxen3_9 := box_at pxxen3_8 AJ9.out
          clear pxxen3_8
          have pxxen4_9 := box_at pxxen4_8 AJ9.out
          clear pxxen4_8
          have pxxen5_9 := box_at pxxen5_8 AJ9.out
          clear pxxen5_8
          have pxgot00_9 := box_at pxgot00_8 AJ9.out
          clear pxgot00_8
          have pxgot01_9 := box_at pxgot01_8 AJ9.out
          clear pxgot01_8
          go_wp2_with fail
          go_region_held3 (fun w' => Below w9.heap.size w9 w' ∧ w'.cell? ⟨w.heap.size, 0, none⟩ = some (.int .i64 gr.p) ∧ w'.cell? ⟨w.heap.size, 1, none⟩ = some (.int .i64 gr.q) ∧ w'.cell? ⟨w.heap.size, 2, none⟩ = some (.int .i64 gr.g) ∧ w'.cell? ⟨w.heap.size + 1, 0, none⟩ = some (.slice bd_a0 bd_n0 bd_c0) ∧ w'.cell? ⟨w.heap.size + 1, 1, none⟩ = some (.slice bd_a1 bd_n1 bd_c1) ∧ w'.cell? ⟨w.heap.size + 1 + 1, 0, none⟩ = some (.int .i64 len.kind) ∧ w'.cell? ⟨w.heap.size + 1 + 1, 1, none⟩ = some (.int .i64 len.author) ∧ w'.cell? ⟨w.heap.size + 1 + 1, 2, none⟩ = some (.slice en_a2 en_n2 en_c2) ∧ w'.cell? ⟨w.heap.size + 1 + 1, 3, none⟩ = some (.slice en_a3 en_n3 en_c3) ∧ w'.cell? ⟨w.heap.size + 1 + 1, 4, none⟩ = some (.slice en_a4 en_n4 en_c4) ∧ w'.cell? ⟨w.heap.size + 1 + 1, 5, none⟩ = some (.slice en_a5 en_n5 en_c5) ∧ w'.cell? ⟨BQwant0, 0, none⟩ = some (.slice want0_a0 want0_n0 want0_c0) ∧ w'.cell? ⟨BQwant0, 1, none⟩ = some (.slice want0_a1 want0_n1 want0_c1) ∧ w'.cell? ⟨w4.heap.size, 0, none⟩ = some (.slice xbd_a0 xbd_n0 xbd_c0) ∧ w'.cell? ⟨w4.heap.size, 1, none⟩ = some (.slice xbd_a1 xbd_n1 xbd_c1) ∧ w'.cell? ⟨w6.heap.size, 0, none⟩ = some (.int .i64 len.kind) ∧ w'.cell? ⟨w6.heap.size, 1, none⟩ = some (.int .i64 len.author) ∧ w'.cell? ⟨w6.heap.size, 2, none⟩ = some (.slice xen_a2 xen_n2 xen_c2) ∧ w'.cell? ⟨w6.heap.size, 3, none⟩ = some (.slice xen_a3 xen_n3 xen_c3) ∧ w'.cell? ⟨w6.heap.size, 4, none⟩ = some (.slice xen_a4 xen_n4 xen_c4) ∧ w'.cell? ⟨w6.heap.size, 5, none⟩ = some (.slice xen_a5 xen_n5 xen_c5) ∧ w'.cell? ⟨BQgot0, 0, none⟩ = some (.slice got0_a0 got0_n0 got0_c0) ∧ w'.cell? ⟨BQgot0, 1, none⟩ = some (.slice got0_a1 got0_n1 got0_c1)) (first | (have hbq : Below w9.heap.size w9 _ := (Below.refl _ _).drew; exact ⟨hbq, box_at pxgr0_9 hbq, box_at pxgr1_9 hbq, box_at pxgr2_9 hbq, box_at pxbd0_9 hbq, box_at pxbd1_9 hbq, box_at pxen0_9 hbq, box_at pxen1_9 hbq, box_at pxen2_9 hbq, box_at pxen3_9 hbq, box_at pxen4_9 hbq, box_at pxen5_9 hbq, box_at pxwant00_9 hbq, box_at pxwant01_9 hbq, box_at pxxbd0_9 hbq, box_at pxxbd1_9 hbq, box_at pxxen0_9 hbq, box_at pxxen1_9 hbq, box_at pxxen2_9 hbq, box_at pxxen3_9 hbq, box_at pxxen4_9 hbq, box_at pxxen5_9 hbq, box_at pxgot00_9 hbq, box_at pxgot01_9 hbq⟩) | (have hbq := keep_b (by assumption) (‹Below w9.heap.size w9 _ ∧ _›).1; exact ⟨hbq, box_at pxgr0_9 hbq, box_at pxgr1_9 hbq, box_at pxgr2_9 hbq, box_at pxbd0_9 hbq, box_at pxbd1_9 hbq, box_at pxen0_9 hbq, box_at pxen1_9 hbq, box_at pxen2_9 hbq, box_at pxen3_9 hbq, box_at pxen4_9 hbq, box_at pxen5_9 hbq, box_at pxwant00_9 hbq, box_at pxwant01_9 hbq, box_at pxxbd0_9 hbq, box_at pxxbd1_9 hbq, box_at pxxen0_9 hbq, box_at pxxen1_9 hbq, box_at pxxen2_9 hbq, box_at pxxen3_9 hbq, box_at pxxen4_9 hbq, box_at pxxen5_9 hbq, box_at pxgot00_9 hbq, box_at pxgot01_9 hbq⟩) | fail) ((first
            | (go_at_call 19; refine (laws_toBoard _ lbd _ ((kS rBoard).rd_below Hbd.out (HB9.out.trans ((‹Below w9.heap.size w9 _ ∧ _›).1.mono HB9.out.size))) HZbd.out).mono ?_; rintro e wy ⟨yy, rfl, hX, hby⟩; obtain ⟨yy_a0, yy_n0, yy_c0, yy_a1, yy_n1, yy_c1, rfl, hrest⟩ := rdBoard.1 ((kS rBoard).own_rd hX); clear hrest)
            | (go_at_call 22; refine (laws_eqBoard _ _ _ _ _ ((kS rBoard).rd_below ((kS rBoard).own_rd (Kind.next (K := kS rBoard) (Kind.next (K := kS rBoard) (Kind.next (K := kS rBoard) (Kind.next (K := kS rBoard) (Kind.next (K := kS rBoard) Oxbd.out AJ5.out) AJ6.out) AJ7.out) AJ8.out) AJ9.out)) (keep_b hby (Below.refl _ _).drew)) ((kS rBoard).own_rd hX)).mono ?_; rintro e w10 ⟨rfl, hb10⟩; rw [decide_eq_true rfl])
            | fail))
          replace hb10 : Below w9.heap.size w9 w10 := (‹Below w9.heap.size w9 _ ∧ _›).1
          clear hX
          have HB10 := Lib.hid (Below.next HB9.out hb10)
          have hs10 := hb10.size
          have AJ10 := Lib.hid hb10; clear hb10
          have pxgr0_10 := box_at BXgr0.out HB10.out
          clear pxgr0_9
          have pxgr1_10 := box_at BXgr1.out HB10.out
          clear pxgr1_9
          have pxgr2_10 := box_at BXgr2.out HB10.out
          clear pxgr2_9
          have pxbd0_10 := box_at BXbd0.out HB10.out
          clear pxbd0_9
          have pxbd1_10 := box_at BXbd1.out HB10.out
          clear pxbd1_9
          have pxen0_10 := box_at BXen0.out HB10.out
          clear pxen0_9
          have pxen1_10 := box_at BXen1.out HB10.out
          clear pxen1_9
          have pxen2_10 := box_at BXen2.out HB10.out
          clear pxen2_9
          have pxen3_10 := box_at BXen3.out HB10.out
          clear pxen3_9
          have pxen4_10 := box_at BXen4.out HB10.out
          clear pxen4_9
          have pxen5_10 := box_at BXen5.out HB10.out
          clear pxen5_9
          have pxwant00_10 := box_at pxwant00_9 AJ10.out
          clear pxwant00_9
          have pxwant01_10 := box_at pxwant01_9 AJ10.out
          clear pxwant01_9
          have pxxbd0_10 := box_at pxxbd0_9 AJ10.out
          clear pxxbd0_9
          have pxxbd1_10 := box_at pxxbd1_9 AJ10.out
          clear pxxbd1_9
          have pxxen0_10 := box_at pxxen0_9 AJ10.out
          clear pxxen0_9
          have pxxen1_10 := box_at pxxen1_9 AJ10.out
          clear pxxen1_9
          have pxxen2_10 := box_at pxxen2_9 AJ10.out
          clear pxxen2_9
          have pxxen3_10 := box_at pxxen3_9 AJ10.out
          clear pxxen3_9
          have pxxen4_10 := box_at pxxen4_9 AJ10.out
          clear pxxen4_9
          have pxxen5_10 := box_at pxxen5_9 AJ10.out
          clear pxxen5_9
          have pxgot00_10 := box_at pxgot00_9 AJ10.out
          clear pxgot00_9
          have pxgot01_10 := box_at pxgot01_9 AJ10.out
          clear pxgot01_9
          go_wp2_with fail
          go_region_held3 (fun w' => Below w10.heap.size w10 w' ∧ w'.cell? ⟨w.heap.size, 0, none⟩ = some (.int .i64 gr.p) ∧ w'.cell? ⟨w.heap.size, 1, none⟩ = some (.int .i64 gr.q) ∧ w'.cell? ⟨w.heap.size, 2, none⟩ = some (.int .i64 gr.g) ∧ w'.cell? ⟨w.heap.size + 1, 0, none⟩ = some (.slice bd_a0 bd_n0 bd_c0) ∧ w'.cell? ⟨w.heap.size + 1, 1, none⟩ = some (.slice bd_a1 bd_n1 bd_c1) ∧ w'.cell? ⟨w.heap.size + 1 + 1, 0, none⟩ = some (.int .i64 len.kind) ∧ w'.cell? ⟨w.heap.size + 1 + 1, 1, none⟩ = some (.int .i64 len.author) ∧ w'.cell? ⟨w.heap.size + 1 + 1, 2, none⟩ = some (.slice en_a2 en_n2 en_c2) ∧ w'.cell? ⟨w.heap.size + 1 + 1, 3, none⟩ = some (.slice en_a3 en_n3 en_c3) ∧ w'.cell? ⟨w.heap.size + 1 + 1, 4, none⟩ = some (.slice en_a4 en_n4 en_c4) ∧ w'.cell? ⟨w.heap.size + 1 + 1, 5, none⟩ = some (.slice en_a5 en_n5 en_c5) ∧ w'.cell? ⟨BQwant0, 0, none⟩ = some (.slice want0_a0 want0_n0 want0_c0) ∧ w'.cell? ⟨BQwant0, 1, none⟩ = some (.slice want0_a1 want0_n1 want0_c1) ∧ w'.cell? ⟨w4.heap.size, 0, none⟩ = some (.slice xbd_a0 xbd_n0 xbd_c0) ∧ w'.cell? ⟨w4.heap.size, 1, none⟩ = some (.slice xbd_a1 xbd_n1 xbd_c1) ∧ w'.cell? ⟨w6.heap.size, 0, none⟩ = some (.int .i64 len.kind) ∧ w'.cell? ⟨w6.heap.size, 1, none⟩ = some (.int .i64 len.author) ∧ w'.cell? ⟨w6.heap.size, 2, none⟩ = some (.slice xen_a2 xen_n2 xen_c2) ∧ w'.cell? ⟨w6.heap.size, 3, none⟩ = some (.slice xen_a3 xen_n3 xen_c3) ∧ w'.cell? ⟨w6.heap.size, 4, none⟩ = some (.slice xen_a4 xen_n4 xen_c4) ∧ w'.cell? ⟨w6.heap.size, 5, none⟩ = some (.slice xen_a5 xen_n5 xen_c5) ∧ w'.cell? ⟨BQgot0, 0, none⟩ = some (.slice got0_a0 got0_n0 got0_c0) ∧ w'.cell? ⟨BQgot0, 1, none⟩ = some (.slice got0_a1 got0_n1 got0_c1)) (first | (have hbq : Below w10.heap.size w10 _ := (Below.refl _ _).drew; exact ⟨hbq, box_at pxgr0_10 hbq, box_at pxgr1_10 hbq, box_at pxgr2_10 hbq, box_at pxbd0_10 hbq, box_at pxbd1_10 hbq, box_at pxen0_10 hbq, box_at pxen1_10 hbq, box_at pxen2_10 hbq, box_at pxen3_10 hbq, box_at pxen4_10 hbq, box_at pxen5_10 hbq, box_at pxwant00_10 hbq, box_at pxwant01_10 hbq, box_at pxxbd0_10 hbq, box_at pxxbd1_10 hbq, box_at pxxen0_10 hbq, box_at pxxen1_10 hbq, box_at pxxen2_10 hbq, box_at pxxen3_10 hbq, box_at pxxen4_10 hbq, box_at pxxen5_10 hbq, box_at pxgot00_10 hbq, box_at pxgot01_10 hbq⟩) | (have hbq := keep_b (by assumption) (‹Below w10.heap.size w10 _ ∧ _›).1; exact ⟨hbq, box_at pxgr0_10 hbq, box_at pxgr1_10 hbq, box_at pxgr2_10 hbq, box_at pxbd0_10 hbq, box_at pxbd1_10 hbq, box_at pxen0_10 hbq, box_at pxen1_10 hbq, box_at pxen2_10 hbq, box_at pxen3_10 hbq, box_at pxen4_10 hbq, box_at pxen5_10 hbq, box_at pxwant00_10 hbq, box_at pxwant01_10 hbq, box_at pxxbd0_10 hbq, box_at pxxbd1_10 hbq, box_at pxxen0_10 hbq, box_at pxxen1_10 hbq, box_at pxxen2_10 hbq, box_at pxxen3_10 hbq, box_at pxxen4_10 hbq, box_at pxxen5_10 hbq, box_at pxgot00_10 hbq, box_at pxgot01_10 hbq⟩) | fail) ((first
            | (go_at_call 20; refine (laws_toEntry _ len _ ((kS rEntry).rd_below Hen.out (HB10.out.trans ((‹Below w10.heap.size w10 _ ∧ _›).1.mono HB10.out.size))) HZen.out).mono ?_; rintro e wy ⟨yy, rfl, hX, hby⟩; obtain ⟨yy_a2, yy_n2, yy_c2, yy_a3, yy_n3, yy_c3, yy_a4, yy_n4, yy_c4, yy_a5, yy_n5, yy_c5, rfl, hrest⟩ := rdEntry.1 ((kS rEntry).own_rd hX); clear hrest)
            | (go_at_call 23; refine (laws_eqEntry _ _ _ _ _ ((kS rEntry).rd_below ((kS rEntry).own_rd (Kind.next (K := kS rEntry) (Kind.next (K := kS rEntry) (Kind.next (K := kS rEntry) (Kind.next (K := kS rEntry) Oxen.out AJ7.out) AJ8.out) AJ9.out) AJ10.out)) (keep_b hby (Below.refl _ _).drew)) ((kS rEntry).own_rd hX)).mono ?_; rintro e w11 ⟨rfl, hb11⟩; rw [decide_eq_true rfl])
            | fail))
          replace hb11 : Below w10.heap.size w10 w11 := (‹Below w10.heap.size w10 _ ∧ _›).1
          clear hX
          have HB11 := Lib.hid (Below.next HB10.out hb11)
          have hs11 := hb11.size
          have AJ11 := Lib.hid hb11; clear hb11
          have pxgr0_11 := box_at BXgr0.out HB11.out
          clear pxgr0_10
          have pxgr1_11 := box_at BXgr1.out HB11.out
          clear pxgr1_10
          have pxgr2_11 := box_at BXgr2.out HB11.out
          clear pxgr2_10
          have pxbd0_11 := box_at BXbd0.out HB11.out
          clear pxbd0_10
          have pxbd1_11 := box_at BXbd1.out HB11.out
          clear pxbd1_10
          have pxen0_11 := box_at BXen0.out HB11.out
          clear pxen0_10
          have pxen1_11 := box_at BXen1.out HB11.out
          clear pxen1_10
          have pxen2_11 := box_at BXen2.out HB11.out
          clear pxen2_10
          have pxen3_11 := box_at BXen3.out HB11.out
          clear pxen3_10
          have pxen4_11 := box_at BXen4.out HB11.out
          clear pxen4_10
          have pxen5_11 := box_at BXen5.out HB11.out
          clear pxen5_10
          have pxwant00_11 := box_at pxwant00_10 AJ11.out
          clear pxwant00_10
          have pxwant01_11 := box_at pxwant01_10 AJ11.out
          clear pxwant01_10
          have pxxbd0_11 := box_at pxxbd0_10 AJ11.out
          clear pxxbd0_10
          have pxxbd1_11 := box_at pxxbd1_10 AJ11.out
          clear pxxbd1_10
          have pxxen0_11 := box_at pxxen0_10 AJ11.out
          clear pxxen0_10
          have pxxen1_11 := box_at pxxen1_10 AJ11.out
          clear pxxen1_10
          have pxxen2_11 := box_at pxxen2_10 AJ11.out
          clear pxxen2_10
          have pxxen3_11 := box_at pxxen3_10 AJ11.out
          clear pxxen3_10
          have pxxen4_11 := box_at pxxen4_10 AJ11.out
          clear pxxen4_10
          have pxxen5_11 := box_at pxxen5_10 AJ11.out
          clear pxxen5_10
          have pxgot00_11 := box_at pxgot00_10 AJ11.out
          clear pxgot00_10
          have pxgot01_11 := box_at pxgot01_10 AJ11.out
          clear pxgot01_10
          go_wp2_with fail
          refine (laws_markBoard _ _ _ 1 _ _ (Kind.next (K := kS rBoard) (Kind.next (K := kS rBoard) (Kind.next (K := kS rBoard) (Kind.next (K := kS rBoard) (Kind.next (K := kS rBoard) (Kind.next (K := kS rBoard) (Kind.next (K := kS rBoard) Oxbd.out AJ5.out) AJ6.out) AJ7.out) AJ8.out) AJ9.out) AJ10.out) AJ11.out) (by have := HZbd.out; have := cnBoard_le lbd; omega) (by omega)).mono ?_
          rintro e w12 ⟨rfl, hX, hG12⟩
          have Oxbdm := Lib.hid hX; clear hX
          have hs12 := hG12.size
          have HB12 := Lib.hid (HB11.out.trans (hG12.below (B := W.heap.size) (by omega) (by omega)))
          have HG12 := Lib.hid hG12; clear hG12
          have pxgr0_12 := box_at BXgr0.out HB12.out
          clear pxgr0_11
          have pxgr1_12 := box_at BXgr1.out HB12.out
          clear pxgr1_11
          have pxgr2_12 := box_at BXgr2.out HB12.out
          clear pxgr2_11
          have pxbd0_12 := box_at BXbd0.out HB12.out
          clear pxbd0_11
          have pxbd1_12 := box_at BXbd1.out HB12.out
          clear pxbd1_11
          have pxen0_12 := box_at BXen0.out HB12.out
          clear pxen0_11
          have pxen1_12 := box_at BXen1.out HB12.out
          clear pxen1_11
          have pxen2_12 := box_at BXen2.out HB12.out
          clear pxen2_11
          have pxen3_12 := box_at BXen3.out HB12.out
          clear pxen3_11
          have pxen4_12 := box_at BXen4.out HB12.out
          clear pxen4_11
          have pxen5_12 := box_at BXen5.out HB12.out
          clear pxen5_11
          have pxwant00_12 := within_at HG12.out pxwant00_11 (by omega)
          clear pxwant00_11
          have pxwant01_12 := within_at HG12.out pxwant01_11 (by omega)
          clear pxwant01_11
          have pxxbd0_12 := within_at HG12.out pxxbd0_11 (by omega)
          clear pxxbd0_11
          have pxxbd1_12 := within_at HG12.out pxxbd1_11 (by omega)
          clear pxxbd1_11
          have pxxen0_12 := within_at HG12.out pxxen0_11 (by omega)
          clear pxxen0_11
          have pxxen1_12 := within_at HG12.out pxxen1_11 (by omega)
          clear pxxen1_11
          have pxxen2_12 := within_at HG12.out pxxen2_11 (by omega)
          clear pxxen2_11
          have pxxen3_12 := within_at HG12.out pxxen3_11 (by omega)
          clear pxxen3_11
          have pxxen4_12 := within_at HG12.out pxxen4_11 (by omega)
          clear pxxen4_11
          have pxxen5_12 := within_at HG12.out pxxen5_11 (by omega)
          clear pxxen5_11
          have pxgot00_12 := within_at HG12.out pxgot00_11 (by omega)
          clear pxgot00_11
          have pxgot01_12 := within_at HG12.out pxgot01_11 (by omega)
          clear pxgot01_11
          go_wp2_with fail
          refine (laws_markEntry _ _ _ (1 + (cnBoard lbd)) _ _ (Kind.kept (K := kS rEntry) (Kind.next (K := kS rEntry) (Kind.next (K := kS rEntry) (Kind.next (K := kS rEntry) (Kind.next (K := kS rEntry) (Kind.next (K := kS rEntry) Oxen.out AJ7.out) AJ8.out) AJ9.out) AJ10.out) AJ11.out) HG12.out (.inr (by omega))) (by have := HZbd.out; have := cnBoard_le lbd; have := HZen.out; have := cnEntry_le len; omega) (by omega)).mono ?_
          rintro e w13 ⟨rfl, hX, hG13⟩
          have Oxenm := Lib.hid hX; clear hX
          have hs13 := hG13.size
          have HB13 := Lib.hid (HB12.out.trans (hG13.below (B := W.heap.size) (by omega) (by omega)))
          have HG13 := Lib.hid hG13; clear hG13
          have pxgr0_13 := box_at BXgr0.out HB13.out
          clear pxgr0_12
          have pxgr1_13 := box_at BXgr1.out HB13.out
          clear pxgr1_12
          have pxgr2_13 := box_at BXgr2.out HB13.out
          clear pxgr2_12
          have pxbd0_13 := box_at BXbd0.out HB13.out
          clear pxbd0_12
          have pxbd1_13 := box_at BXbd1.out HB13.out
          clear pxbd1_12
          have pxen0_13 := box_at BXen0.out HB13.out
          clear pxen0_12
          have pxen1_13 := box_at BXen1.out HB13.out
          clear pxen1_12
          have pxen2_13 := box_at BXen2.out HB13.out
          clear pxen2_12
          have pxen3_13 := box_at BXen3.out HB13.out
          clear pxen3_12
          have pxen4_13 := box_at BXen4.out HB13.out
          clear pxen4_12
          have pxen5_13 := box_at BXen5.out HB13.out
          clear pxen5_12
          have pxwant00_13 := within_at HG13.out pxwant00_12 (by omega)
          clear pxwant00_12
          have pxwant01_13 := within_at HG13.out pxwant01_12 (by omega)
          clear pxwant01_12
          have pxxbd0_13 := within_at HG13.out pxxbd0_12 (by omega)
          clear pxxbd0_12
          have pxxbd1_13 := within_at HG13.out pxxbd1_12 (by omega)
          clear pxxbd1_12
          have pxxen0_13 := within_at HG13.out pxxen0_12 (by omega)
          clear pxxen0_12
          have pxxen1_13 := within_at HG13.out pxxen1_12 (by omega)
          clear pxxen1_12
          have pxxen2_13 := within_at HG13.out pxxen2_12 (by omega)
          clear pxxen2_12
          have pxxen3_13 := within_at HG13.out pxxen3_12 (by omega)
          clear pxxen3_12
          have pxxen4_13 := within_at HG13.out pxxen4_12 (by omega)
          clear pxxen4_12
          have pxxen5_13 := within_at HG13.out pxxen5_12 (by omega)
          clear pxxen5_12
          have pxgot00_13 := within_at HG13.out pxgot00_12 (by omega)
          clear pxgot00_12
          have pxgot01_13 := within_at HG13.out pxgot01_12 (by omega)
          clear pxgot01_12
          go_wp2_with fail
          refine (laws_eqBoard _ _ _ _ _ ((kS rBoard).own_rd (Kind.kept (K := kS rBoard) (Kind.kept (K := kS rBoard) (Kind.next (K := kS rBoard) (Kind.next (K := kS rBoard) (Kind.next (K := kS rBoard) Ogot0.out AJ9.out) AJ10.out) AJ11.out) HG12.out (.inr (by omega))) HG13.out (.inr (by omega)))) ((kS rBoard).own_rd (Kind.kept (K := kS rBoard) (Kind.kept (K := kS rBoard) (Kind.next (K := kS rBoard) (Kind.next (K := kS rBoard) (Kind.next (K := kS rBoard) (Kind.next (K := kS rBoard) (Kind.next (K := kS rBoard) (Kind.next (K := kS rBoard) (Kind.next (K := kS rBoard) (Kind.next (K := kS rBoard) Owant0.out AJ4.out) AJ5.out) AJ6.out) AJ7.out) AJ8.out) AJ9.out) AJ10.out) AJ11.out) HG12.out (.inl (by omega))) HG13.out (.inl (by omega))))).mono ?_
          rintro e w14 ⟨rfl, hb14⟩
          rw [decide_eq_true rfl]
          have HB14 := Lib.hid (Below.next HB13.out hb14)
          have hs14 := hb14.size
          have AJ14 := Lib.hid hb14; clear hb14
          have pxgr0_14 := box_at BXgr0.out HB14.out
          clear pxgr0_13
          have pxgr1_14 := box_at BXgr1.out HB14.out
          clear pxgr1_13
          have pxgr2_14 := box_at BXgr2.out HB14.out
          clear pxgr2_13
          have pxbd0_14 := box_at BXbd0.out HB14.out
          clear pxbd0_13
          have pxbd1_14 := box_at BXbd1.out HB14.out
          clear pxbd1_13
          have pxen0_14 := box_at BXen0.out HB14.out
          clear pxen0_13
          have pxen1_14 := box_at BXen1.out HB14.out
          clear pxen1_13
          have pxen2_14 := box_at BXen2.out HB14.out
          clear pxen2_13
          have pxen3_14 := box_at BXen3.out HB14.out
          clear pxen3_13
          have pxen4_14 := box_at BXen4.out HB14.out
          clear pxen4_13
          have pxen5_14 := box_at BXen5.out HB14.out
          clear pxen5_13
          have pxwant00_14 := box_at pxwant00_13 AJ14.out
          clear pxwant00_13
          have pxwant01_14 := box_at pxwant01_13 AJ14.out
          clear pxwant01_13
          have pxxbd0_14 := box_at pxxbd0_13 AJ14.out
          clear pxxbd0_13
          have pxxbd1_14 := box_at pxxbd1_13 AJ14.out
          clear pxxbd1_13
          have pxxen0_14 := box_at pxxen0_13 AJ14.out
          clear pxxen0_13
          have pxxen1_14 := box_at pxxen1_13 AJ14.out
          clear pxxen1_13
          have pxxen2_14 := box_at pxxen2_13 AJ14.out
          clear pxxen2_13
          have pxxen3_14 := box_at pxxen3_13 AJ14.out
          clear pxxen3_13
          have pxxen4_14 := box_at pxxen4_13 AJ14.out
          clear pxxen4_13
          have pxxen5_14 := box_at pxxen5_13 AJ14.out
          clear pxxen5_13
          have pxgot00_14 := box_at pxgot00_13 AJ14.out
          clear pxgot00_13
          have pxgot01_14 := box_at pxgot01_13 AJ14.out
          clear pxgot01_13
          have LG0 : Hid (1 + (cnBoard (lR0)) ≤ 9223372036854775806) := HR0.out ▸ (show Hid (1 + (cnBoard ((apD gr lbd len))) ≤ 9223372036854775806) from by have := cn_apD gr lbd len; have := HZbd.out; have := HZen.out; unfold Hid; omega)
          go_wp2_with fail
          refine (laws_markBoard _ _ _ 1 _ _ (Kind.next (K := kS rBoard) (Kind.kept (K := kS rBoard) (Kind.kept (K := kS rBoard) (Kind.next (K := kS rBoard) (Kind.next (K := kS rBoard) (Kind.next (K := kS rBoard) Ogot0.out AJ9.out) AJ10.out) AJ11.out) HG12.out (.inr (by omega))) HG13.out (.inr (by omega))) AJ14.out) (by exact LG0.out) (by omega)).mono ?_
          rintro e w15 ⟨rfl, hX, hG15⟩
          have Ogot0m := Lib.hid hX; clear hX
          have hs15 := hG15.size
          have HB15 := Lib.hid (HB14.out.trans (hG15.below (B := W.heap.size) (by omega) (by omega)))
          have HG15 := Lib.hid hG15; clear hG15
          have pxgr0_15 := box_at BXgr0.out HB15.out
          clear pxgr0_14
          have pxgr1_15 := box_at BXgr1.out HB15.out
          clear pxgr1_14
          have pxgr2_15 := box_at BXgr2.out HB15.out
          clear pxgr2_14
          have pxbd0_15 := box_at BXbd0.out HB15.out
          clear pxbd0_14
          have pxbd1_15 := box_at BXbd1.out HB15.out
          clear pxbd1_14
          have pxen0_15 := box_at BXen0.out HB15.out
          clear pxen0_14
          have pxen1_15 := box_at BXen1.out HB15.out
          clear pxen1_14
          have pxen2_15 := box_at BXen2.out HB15.out
          clear pxen2_14
          have pxen3_15 := box_at BXen3.out HB15.out
          clear pxen3_14
          have pxen4_15 := box_at BXen4.out HB15.out
          clear pxen4_14
          have pxen5_15 := box_at BXen5.out HB15.out
          clear pxen5_14
          have pxwant00_15 := within_at HG15.out pxwant00_14 (by omega)
          clear pxwant00_14
          have pxwant01_15 := within_at HG15.out pxwant01_14 (by omega)
          clear pxwant01_14
          have pxxbd0_15 := within_at HG15.out pxxbd0_14 (by omega)
          clear pxxbd0_14
          have pxxbd1_15 := within_at HG15.out pxxbd1_14 (by omega)
          clear pxxbd1_14
          have pxxen0_15 := within_at HG15.out pxxen0_14 (by omega)
          clear pxxen0_14
          have pxxen1_15 := within_at HG15.out pxxen1_14 (by omega)
          clear pxxen1_14
          have pxxen2_15 := within_at HG15.out pxxen2_14 (by omega)
          clear pxxen2_14
          have pxxen3_15 := within_at HG15.out pxxen3_14 (by omega)
          clear pxxen3_14
          have pxxen4_15 := within_at HG15.out pxxen4_14 (by omega)
          clear pxxen4_14
          have pxxen5_15 := within_at HG15.out pxxen5_14 (by omega)
          clear pxxen5_14
          have pxgot00_15 := within_at HG15.out pxgot00_14 (by omega)
          clear pxgot00_14
          have pxgot01_15 := within_at HG15.out pxgot01_14 (by omega)
          clear pxgot01_14
          go_wp2_with fail
          refine (laws_heldBoard _ 1 _ _ ((kS rBoard).own_rd Ogot0m.out) (by exact LG0.out)).mono ?_
          rintro e w16 ⟨rfl, hb16⟩
          have HB16 := Lib.hid (Below.next HB15.out hb16)
          have hs16 := hb16.size
          have AJ16 := Lib.hid hb16; clear hb16
          have pxgr0_16 := box_at BXgr0.out HB16.out
          clear pxgr0_15
          have pxgr1_16 := box_at BXgr1.out HB16.out
          clear pxgr1_15
          have pxgr2_16 := box_at BXgr2.out HB16.out
          clear pxgr2_15
          have pxbd0_16 := box_at BXbd0.out HB16.out
          clear pxbd0_15
          have pxbd1_16 := box_at BXbd1.out HB16.out
          clear pxbd1_15
          have pxen0_16 := box_at BXen0.out HB16.out
          clear pxen0_15
          have pxen1_16 := box_at BXen1.out HB16.out
          clear pxen1_15
          have pxen2_16 := box_at BXen2.out HB16.out
          clear pxen2_15
          have pxen3_16 := box_at BXen3.out HB16.out
          clear pxen3_15
          have pxen4_16 := box_at BXen4.out HB16.out
          clear pxen4_15
          have pxen5_16 := box_at BXen5.out HB16.out
          clear pxen5_15
          have pxwant00_16 := box_at pxwant00_15 AJ16.out
          clear pxwant00_15
          have pxwant01_16 := box_at pxwant01_15 AJ16.out
          clear pxwant01_15
          have pxxbd0_16 := box_at pxxbd0_15 AJ16.out
          clear pxxbd0_15
          have pxxbd1_16 := box_at pxxbd1_15 AJ16.out
          clear pxxbd1_15
          have pxxen0_16 := box_at pxxen0_15 AJ16.out
          clear pxxen0_15
          have pxxen1_16 := box_at pxxen1_15 AJ16.out
          clear pxxen1_15
          have pxxen2_16 := box_at pxxen2_15 AJ16.out
          clear pxxen2_15
          have pxxen3_16 := box_at pxxen3_15 AJ16.out
          clear pxxen3_15
          have pxxen4_16 := box_at pxxen4_15 AJ16.out
          clear pxxen4_15
          have pxxen5_16 := box_at pxxen5_15 AJ16.out
          clear pxxen5_15
          have pxgot00_16 := box_at pxgot00_15 AJ16.out
          clear pxgot00_15
          have pxgot01_16 := box_at pxgot01_15 AJ16.out
          clear pxgot01_15
          go_upto_region 31 with fail
          go_cut [17, 18] from 19 (fun vb vf wx => ∃ (BQ LO HI : Nat) (again0_a0 : Option Addr) (again0_n0 : Nat) (again0_c0 : Nat) (again0_a1 : Option Addr) (again0_n1 : Nat) (again0_c1 : Nat), vb = .pointer (some ⟨BQ, 0, none⟩) ∧ vf = .bool (apB gr lbd len) ∧ Hid (Below w16.heap.size w16 wx) ∧ Hid ((kS rBoard).own wx LO HI (.agg #[.slice again0_a0 again0_n0 again0_c0, .slice again0_a1 again0_n1 again0_c1]) lR0) ∧ wx.cell? ⟨BQ, 0, none⟩ = some (.slice again0_a0 again0_n0 again0_c0) ∧ wx.cell? ⟨BQ, 1, none⟩ = some (.slice again0_a1 again0_n1 again0_c1) ∧ w16.heap.size ≤ LO ∧ LO ≤ HI ∧ HI ≤ wx.heap.size ∧ w16.heap.size ≤ BQ ∧ BQ < wx.heap.size ∧ (BQ < LO ∨ HI ≤ BQ))
          case first =>
            refine wp_region_noPanic ?_
            refine wp_region_V (fun w' => w'.cell? ⟨w.heap.size, 0, none⟩ = some (.int .i64 gr.p) ∧ w'.cell? ⟨w.heap.size, 1, none⟩ = some (.int .i64 gr.q) ∧ w'.cell? ⟨w.heap.size, 2, none⟩ = some (.int .i64 gr.g) ∧ w'.cell? ⟨w.heap.size + 1, 0, none⟩ = some (.slice bd_a0 bd_n0 bd_c0) ∧ w'.cell? ⟨w.heap.size + 1, 1, none⟩ = some (.slice bd_a1 bd_n1 bd_c1) ∧ w'.cell? ⟨w.heap.size + 1 + 1, 0, none⟩ = some (.int .i64 len.kind) ∧ w'.cell? ⟨w.heap.size + 1 + 1, 1, none⟩ = some (.int .i64 len.author) ∧ w'.cell? ⟨w.heap.size + 1 + 1, 2, none⟩ = some (.slice en_a2 en_n2 en_c2) ∧ w'.cell? ⟨w.heap.size + 1 + 1, 3, none⟩ = some (.slice en_a3 en_n3 en_c3) ∧ w'.cell? ⟨w.heap.size + 1 + 1, 4, none⟩ = some (.slice en_a4 en_n4 en_c4) ∧ w'.cell? ⟨w.heap.size + 1 + 1, 5, none⟩ = some (.slice en_a5 en_n5 en_c5) ∧ w'.cell? ⟨BQwant0, 0, none⟩ = some (.slice want0_a0 want0_n0 want0_c0) ∧ w'.cell? ⟨BQwant0, 1, none⟩ = some (.slice want0_a1 want0_n1 want0_c1) ∧ w'.cell? ⟨w4.heap.size, 0, none⟩ = some (.slice xbd_a0 xbd_n0 xbd_c0) ∧ w'.cell? ⟨w4.heap.size, 1, none⟩ = some (.slice xbd_a1 xbd_n1 xbd_c1) ∧ w'.cell? ⟨w6.heap.size, 0, none⟩ = some (.int .i64 len.kind) ∧ w'.cell? ⟨w6.heap.size, 1, none⟩ = some (.int .i64 len.author) ∧ w'.cell? ⟨w6.heap.size, 2, none⟩ = some (.slice xen_a2 xen_n2 xen_c2) ∧ w'.cell? ⟨w6.heap.size, 3, none⟩ = some (.slice xen_a3 xen_n3 xen_c3) ∧ w'.cell? ⟨w6.heap.size, 4, none⟩ = some (.slice xen_a4 xen_n4 xen_c4) ∧ w'.cell? ⟨w6.heap.size, 5, none⟩ = some (.slice xen_a5 xen_n5 xen_c5) ∧ w'.cell? ⟨BQgot0, 0, none⟩ = some (.slice got0_a0 got0_n0 got0_c0) ∧ w'.cell? ⟨BQgot0, 1, none⟩ = some (.slice got0_a1 got0_n1 got0_c1)) 15 12 (.rd 0 (.rd 2 (.rd 4 (.alt 1 (.alt 3 (.alt 5 (.alt 6 (.rd 7 (.rd 8 (.rd 9 (.alt 10 (.alt 11 .done .nil) .nil)))) (.alt 10 (.alt 6 (.rd 7 (.rd 8 (.rd 9 (.alt 11 .done .nil)))) .nil) .nil)) (.alt 10 (.alt 5 (.alt 6 (.rd 7 (.rd 8 (.rd 9 (.alt 11 .done .nil)))) .nil) .nil) .nil)) (.alt 10 (.alt 3 (.alt 5 (.alt 6 (.rd 7 (.rd 8 (.rd 9 (.alt 11 .done .nil)))) .nil) .nil) .nil) .nil)) (.alt 10 (.alt 1 (.alt 3 (.alt 5 (.alt 6 (.rd 7 (.rd 8 (.rd 9 (.alt 11 .done .nil)))) .nil) .nil) .nil) .nil) .nil))))) [12] (by kernel_rfl) (by kernel_rfl) rfl (fun _ _ _ _ _ h => h) ⟨box_at pxgr0_16 (Below.refl _ _).drew, box_at pxgr1_16 (Below.refl _ _).drew, box_at pxgr2_16 (Below.refl _ _).drew, box_at pxbd0_16 (Below.refl _ _).drew, box_at pxbd1_16 (Below.refl _ _).drew, box_at pxen0_16 (Below.refl _ _).drew, box_at pxen1_16 (Below.refl _ _).drew, box_at pxen2_16 (Below.refl _ _).drew, box_at pxen3_16 (Below.refl _ _).drew, box_at pxen4_16 (Below.refl _ _).drew, box_at pxen5_16 (Below.refl _ _).drew, box_at pxwant00_16 (Below.refl _ _).drew, box_at pxwant01_16 (Below.refl _ _).drew, box_at pxxbd0_16 (Below.refl _ _).drew, box_at pxxbd1_16 (Below.refl _ _).drew, box_at pxxen0_16 (Below.refl _ _).drew, box_at pxxen1_16 (Below.refl _ _).drew, box_at pxxen2_16 (Below.refl _ _).drew, box_at pxxen3_16 (Below.refl _ _).drew, box_at pxxen4_16 (Below.refl _ _).drew, box_at pxxen5_16 (Below.refl _ _).drew, box_at pxgot00_16 (Below.refl _ _).drew, box_at pxgot01_16 (Below.refl _ _).drew⟩ ?_
            simp only [pickV, pickN, List.getElem?_cons_zero, List.getElem?_cons_succ]
            have HC0 : Hid (Below w16.heap.size w16 w16.drew) := (Below.refl _ _).drew
            repeat (refine' wpV_read _ (by kernel_rfl) (fun w' hS' => ?_) ?_; rotate_left; · ((try dsimp only at hS'); go_simp; (try with_reducible rfl)); (try simp only [Act.put, List.setIfInBounds_toArray, List.set_cons_zero, List.set_cons_succ]))
            refine wpV_or (by kernel_rfl) (fun K hK => ?_) ?_
            · go_simp
              go_at_call 18
              refine (laws_toGroup gr _).mono ?_
              rintro e u_1 ⟨rfl, hq⟩
              have HC_1 := Lib.hid (Below.next HC0.out hq)
              have hsz_1 := hq.size
              have hsw_1 := HC_1.out.size
              clear hq
              refine hK.out _ _ ⟨box_at pxgr0_16 HC_1.out, box_at pxgr1_16 HC_1.out, box_at pxgr2_16 HC_1.out, box_at pxbd0_16 HC_1.out, box_at pxbd1_16 HC_1.out, box_at pxen0_16 HC_1.out, box_at pxen1_16 HC_1.out, box_at pxen2_16 HC_1.out, box_at pxen3_16 HC_1.out, box_at pxen4_16 HC_1.out, box_at pxen5_16 HC_1.out, box_at pxwant00_16 HC_1.out, box_at pxwant01_16 HC_1.out, box_at pxxbd0_16 HC_1.out, box_at pxxbd1_16 HC_1.out, box_at pxxen0_16 HC_1.out, box_at pxxen1_16 HC_1.out, box_at pxxen2_16 HC_1.out, box_at pxxen3_16 HC_1.out, box_at pxxen4_16 HC_1.out, box_at pxxen5_16 HC_1.out, box_at pxgot00_16 HC_1.out, box_at pxgot01_16 HC_1.out⟩ (fun _ => ?_)
              clear hK K
              (try simp only [Act.put, List.setIfInBounds_toArray, List.set_cons_zero, List.set_cons_succ])
              refine wpV_or (by kernel_rfl) (fun K hK => ?_) ?_
              · go_simp
                go_at_call 19
                refine (laws_toBoard _ lbd _ ((kS rBoard).rd_below Hbd.out (HB16.out.trans (HC_1.out.mono HB16.out.size))) HZbd.out).mono ?_
                rintro e u_2 ⟨sbd, rfl, hX, hq⟩
                have Osbd := Lib.hid hX
                clear hX
                obtain ⟨sbd_a0, sbd_n0, sbd_c0, sbd_a1, sbd_n1, sbd_c1, rfl, hrest⟩ := rdBoard.1 ((kS rBoard).own_rd Osbd.out)
                clear hrest
                have RDbd_2 := Lib.hid (((kS rBoard).own_rd Osbd.out))
                have HC_2 := Lib.hid (Below.next HC_1.out hq)
                have hsz_2 := hq.size
                have hsw_2 := HC_2.out.size
                clear hq
                refine hK.out _ _ ⟨box_at pxgr0_16 HC_2.out, box_at pxgr1_16 HC_2.out, box_at pxgr2_16 HC_2.out, box_at pxbd0_16 HC_2.out, box_at pxbd1_16 HC_2.out, box_at pxen0_16 HC_2.out, box_at pxen1_16 HC_2.out, box_at pxen2_16 HC_2.out, box_at pxen3_16 HC_2.out, box_at pxen4_16 HC_2.out, box_at pxen5_16 HC_2.out, box_at pxwant00_16 HC_2.out, box_at pxwant01_16 HC_2.out, box_at pxxbd0_16 HC_2.out, box_at pxxbd1_16 HC_2.out, box_at pxxen0_16 HC_2.out, box_at pxxen1_16 HC_2.out, box_at pxxen2_16 HC_2.out, box_at pxxen3_16 HC_2.out, box_at pxxen4_16 HC_2.out, box_at pxxen5_16 HC_2.out, box_at pxgot00_16 HC_2.out, box_at pxgot01_16 HC_2.out⟩ (fun _ => ?_)
                clear hK K
                (try simp only [Act.put, List.setIfInBounds_toArray, List.set_cons_zero, List.set_cons_succ])
                refine wpV_or (by kernel_rfl) (fun K hK => ?_) ?_
                · go_simp
                  go_at_call 20
                  refine (laws_toEntry _ len _ ((kS rEntry).rd_below Hen.out (HB16.out.trans (HC_2.out.mono HB16.out.size))) HZen.out).mono ?_
                  rintro e u_3 ⟨sen, rfl, hX, hq⟩
                  have Osen := Lib.hid hX
                  clear hX
                  obtain ⟨sen_a2, sen_n2, sen_c2, sen_a3, sen_n3, sen_c3, sen_a4, sen_n4, sen_c4, sen_a5, sen_n5, sen_c5, rfl, hrest⟩ := rdEntry.1 ((kS rEntry).own_rd Osen.out)
                  clear hrest
                  have RDen_3 := Lib.hid (((kS rEntry).own_rd Osen.out))
                  have HC_3 := Lib.hid (Below.next HC_2.out hq)
                  have hsz_3 := hq.size
                  have hsw_3 := HC_3.out.size
                  have RDbd_3 := Lib.hid (((kS rBoard).rd_below RDbd_2.out hq))
                  clear hq
                  refine hK.out _ _ ⟨box_at pxgr0_16 HC_3.out, box_at pxgr1_16 HC_3.out, box_at pxgr2_16 HC_3.out, box_at pxbd0_16 HC_3.out, box_at pxbd1_16 HC_3.out, box_at pxen0_16 HC_3.out, box_at pxen1_16 HC_3.out, box_at pxen2_16 HC_3.out, box_at pxen3_16 HC_3.out, box_at pxen4_16 HC_3.out, box_at pxen5_16 HC_3.out, box_at pxwant00_16 HC_3.out, box_at pxwant01_16 HC_3.out, box_at pxxbd0_16 HC_3.out, box_at pxxbd1_16 HC_3.out, box_at pxxen0_16 HC_3.out, box_at pxxen1_16 HC_3.out, box_at pxxen2_16 HC_3.out, box_at pxxen3_16 HC_3.out, box_at pxxen4_16 HC_3.out, box_at pxxen5_16 HC_3.out, box_at pxgot00_16 HC_3.out, box_at pxgot01_16 HC_3.out⟩ (fun _ => ?_)
                  clear hK K
                  (try simp only [Act.put, List.setIfInBounds_toArray, List.set_cons_zero, List.set_cons_succ])
                  refine wpV_or (by kernel_rfl) (fun K hK => ?_) ?_
                  · go_simp
                    go_at_call 21
                    refine (impl_AppendEntry gr _ lbd _ len _ Jgr.out HYbd.out RDbd_3.out HYen.out RDen_3.out).mono ?_
                    rintro e u_4 ⟨again0, rfl, hX, hq⟩
                    rw [HR0.out] at hX
                    have OW4 := Lib.hid hX
                    clear hX
                    obtain ⟨again0_a0, again0_n0, again0_c0, again0_a1, again0_n1, again0_c1, rfl, hrest⟩ := rdBoard.1 ((kS rBoard).own_rd OW4.out)
                    clear hrest
                    have HC_4 := Lib.hid (Below.next HC_3.out hq)
                    have hsz_4 := hq.size
                    have hsw_4 := HC_4.out.size
                    have RDbd_4 := Lib.hid (((kS rBoard).rd_below RDbd_3.out hq))
                    have RDen_4 := Lib.hid (((kS rEntry).rd_below RDen_3.out hq))
                    clear hq
                    refine hK.out _ _ ⟨box_at pxgr0_16 HC_4.out, box_at pxgr1_16 HC_4.out, box_at pxgr2_16 HC_4.out, box_at pxbd0_16 HC_4.out, box_at pxbd1_16 HC_4.out, box_at pxen0_16 HC_4.out, box_at pxen1_16 HC_4.out, box_at pxen2_16 HC_4.out, box_at pxen3_16 HC_4.out, box_at pxen4_16 HC_4.out, box_at pxen5_16 HC_4.out, box_at pxwant00_16 HC_4.out, box_at pxwant01_16 HC_4.out, box_at pxxbd0_16 HC_4.out, box_at pxxbd1_16 HC_4.out, box_at pxxen0_16 HC_4.out, box_at pxxen1_16 HC_4.out, box_at pxxen2_16 HC_4.out, box_at pxxen3_16 HC_4.out, box_at pxxen4_16 HC_4.out, box_at pxxen5_16 HC_4.out, box_at pxgot00_16 HC_4.out, box_at pxgot01_16 HC_4.out⟩ (fun _ => ?_)
                    clear hK K
                    (try simp only [Act.put, List.setIfInBounds_toArray, List.set_cons_zero, List.set_cons_succ])
                    repeat (refine' wpV_read _ (by kernel_rfl) (fun w' hS' => ?_) ?_; rotate_left; · ((try dsimp only at hS'); go_simp; (try with_reducible rfl)); (try simp only [Act.put, List.setIfInBounds_toArray, List.set_cons_zero, List.set_cons_succ]))
                    refine wpV_do (by kernel_rfl) (fun K hK => ?_)
                    go_simp
                    obtain ⟨u_5, hX⟩ : ∃ x0, x0 = (u_4.alloc (.cells #[.slice none 0 0, .slice none 0 0] 36)) := ⟨_, rfl⟩
                    have hq : Below u_4.heap.size u_4 u_5 := by rw [hX]; exact ((Below.refl _ _).alloc (Nat.le_refl _) _)
                    have HX5 : Hid (BoxN u_5 u_4.heap.size 36 [.slice none 0 0, .slice none 0 0]) := by unfold Hid; rw [hX]; exact BoxN.new u_4 [.slice none 0 0, .slice none 0 0] 36
                    have hlt5 := HX5.out.lt
                    rw [← hX]
                    clear hX
                    have HC_5 := Lib.hid (Below.next HC_4.out hq)
                    have hsz_5 := hq.size
                    have hsw_5 := HC_5.out.size
                    have RDbd_5 := Lib.hid (((kS rBoard).rd_below RDbd_4.out hq))
                    have RDen_5 := Lib.hid (((kS rEntry).rd_below RDen_4.out hq))
                    have OW5 := Lib.hid (Kind.next (K := (kS rBoard)) OW4.out hq)
                    clear hq
                    refine hK.out _ _ ⟨box_at pxgr0_16 HC_5.out, box_at pxgr1_16 HC_5.out, box_at pxgr2_16 HC_5.out, box_at pxbd0_16 HC_5.out, box_at pxbd1_16 HC_5.out, box_at pxen0_16 HC_5.out, box_at pxen1_16 HC_5.out, box_at pxen2_16 HC_5.out, box_at pxen3_16 HC_5.out, box_at pxen4_16 HC_5.out, box_at pxen5_16 HC_5.out, box_at pxwant00_16 HC_5.out, box_at pxwant01_16 HC_5.out, box_at pxxbd0_16 HC_5.out, box_at pxxbd1_16 HC_5.out, box_at pxxen0_16 HC_5.out, box_at pxxen1_16 HC_5.out, box_at pxxen2_16 HC_5.out, box_at pxxen3_16 HC_5.out, box_at pxxen4_16 HC_5.out, box_at pxxen5_16 HC_5.out, box_at pxgot00_16 HC_5.out, box_at pxgot01_16 HC_5.out⟩ (fun _ => ?_)
                    clear hK K
                    (try simp only [Act.put, List.setIfInBounds_toArray, List.set_cons_zero, List.set_cons_succ])
                    have r0 := HX5.out.cell (i := 0) rfl
                    have r1 := HX5.out.cell (i := 1) rfl
                    have fr := fun j => HX5.out.frozen j
                    have FB := Lib.hid ((HC_5.out.setCell (p := ⟨u_4.heap.size, 0, none⟩) (by show w16.heap.size ≤ u_4.heap.size; omega) (.slice again0_a0 again0_n0 again0_c0)).setCell (p := ⟨u_4.heap.size, 1, none⟩) (by show w16.heap.size ≤ u_4.heap.size; omega) (.slice again0_a1 again0_n1 again0_c1))
                    have FX := Lib.hid ((HX5.out.set 0 (.slice again0_a0 again0_n0 again0_c0)).set 1 (.slice again0_a1 again0_n1 again0_c1))
                    have FO := Lib.hid (Kind.kept (K := (kS rBoard)) OW5.out (((Within.refl (u_4.heap.size) (u_4.heap.size + 1) u_5).setCell (b := u_4.heap.size) (by omega) (by omega) 0 (.slice again0_a0 again0_n0 again0_c0)).setCell (b := u_4.heap.size) (by omega) (by omega) 1 (.slice again0_a1 again0_n1 again0_c1)) (by omega))
                    have fsz := FX.out.lt
                    have fsw := ((((Within.refl (u_4.heap.size) (u_4.heap.size + 1) u_5).setCell (b := u_4.heap.size) (by omega) (by omega) 0 (.slice again0_a0 again0_n0 again0_c0)).setCell (b := u_4.heap.size) (by omega) (by omega) 1 (.slice again0_a1 again0_n1 again0_c1))).size
                    refine wpV_do (by kernel_rfl) (fun K hK => ?_)
                    go_simp
                    refine hK.out _ _ ⟨box_at pxgr0_16 FB.out, box_at pxgr1_16 FB.out, box_at pxgr2_16 FB.out, box_at pxbd0_16 FB.out, box_at pxbd1_16 FB.out, box_at pxen0_16 FB.out, box_at pxen1_16 FB.out, box_at pxen2_16 FB.out, box_at pxen3_16 FB.out, box_at pxen4_16 FB.out, box_at pxen5_16 FB.out, box_at pxwant00_16 FB.out, box_at pxwant01_16 FB.out, box_at pxxbd0_16 FB.out, box_at pxxbd1_16 FB.out, box_at pxxen0_16 FB.out, box_at pxxen1_16 FB.out, box_at pxxen2_16 FB.out, box_at pxxen3_16 FB.out, box_at pxxen4_16 FB.out, box_at pxxen5_16 FB.out, box_at pxgot00_16 FB.out, box_at pxgot01_16 FB.out⟩ (fun _ => ?_)
                    clear hK K
                    (try simp only [Act.put, List.setIfInBounds_toArray, List.set_cons_zero, List.set_cons_succ])
                    refine wpV_done ?_
                    go_wp2_with fail
                    refine NoPanic.normal ?_
                    try (go_wp2_with fail)
                    go_meet
                    exact ⟨u_4.heap.size, u_3.heap.size, u_4.heap.size, _, _, _, _, _, _, rfl, rfl, FB, FO, FX.out.cell (i := 0) rfl, FX.out.cell (i := 1) rfl, by omega, by omega, by omega, by omega, by omega, by omega⟩
                  refine wpV_do (by kernel_rfl) (fun K hK => ?_)
                  go_simp
                  obtain ⟨u_6, hX⟩ : ∃ x0, x0 = (u_3.alloc (.cells #[.slice none 0 0, .slice none 0 0] 36)) := ⟨_, rfl⟩
                  have hq : Below u_3.heap.size u_3 u_6 := by rw [hX]; exact ((Below.refl _ _).alloc (Nat.le_refl _) _)
                  have HX6 : Hid (BoxN u_6 u_3.heap.size 36 [.slice none 0 0, .slice none 0 0]) := by unfold Hid; rw [hX]; exact BoxN.new u_3 [.slice none 0 0, .slice none 0 0] 36
                  have hlt6 := HX6.out.lt
                  rw [← hX]
                  clear hX
                  have HC_6 := Lib.hid (Below.next HC_3.out hq)
                  have hsz_6 := hq.size
                  have hsw_6 := HC_6.out.size
                  have RDbd_6 := Lib.hid (((kS rBoard).rd_below RDbd_3.out hq))
                  have RDen_6 := Lib.hid (((kS rEntry).rd_below RDen_3.out hq))
                  clear hq
                  refine hK.out _ _ ⟨box_at pxgr0_16 HC_6.out, box_at pxgr1_16 HC_6.out, box_at pxgr2_16 HC_6.out, box_at pxbd0_16 HC_6.out, box_at pxbd1_16 HC_6.out, box_at pxen0_16 HC_6.out, box_at pxen1_16 HC_6.out, box_at pxen2_16 HC_6.out, box_at pxen3_16 HC_6.out, box_at pxen4_16 HC_6.out, box_at pxen5_16 HC_6.out, box_at pxwant00_16 HC_6.out, box_at pxwant01_16 HC_6.out, box_at pxxbd0_16 HC_6.out, box_at pxxbd1_16 HC_6.out, box_at pxxen0_16 HC_6.out, box_at pxxen1_16 HC_6.out, box_at pxxen2_16 HC_6.out, box_at pxxen3_16 HC_6.out, box_at pxxen4_16 HC_6.out, box_at pxxen5_16 HC_6.out, box_at pxgot00_16 HC_6.out, box_at pxgot01_16 HC_6.out⟩ (fun _ => ?_)
                  clear hK K
                  (try simp only [Act.put, List.setIfInBounds_toArray, List.set_cons_zero, List.set_cons_succ])
                  refine wpV_do (by kernel_rfl) (fun K hK => ?_)
                  go_simp
                  go_at_call 21
                  refine (impl_AppendEntry gr _ lbd _ len _ Jgr.out HYbd.out RDbd_6.out HYen.out RDen_6.out).mono ?_
                  rintro e u_7 ⟨again0, rfl, hX, hq⟩
                  rw [HR0.out] at hX
                  have OW7 := Lib.hid hX
                  clear hX
                  obtain ⟨again0_a0, again0_n0, again0_c0, again0_a1, again0_n1, again0_c1, rfl, hrest⟩ := rdBoard.1 ((kS rBoard).own_rd OW7.out)
                  clear hrest
                  have HC_7 := Lib.hid (Below.next HC_6.out hq)
                  have hsz_7 := hq.size
                  have hsw_7 := HC_7.out.size
                  have RDbd_7 := Lib.hid (((kS rBoard).rd_below RDbd_6.out hq))
                  have RDen_7 := Lib.hid (((kS rEntry).rd_below RDen_6.out hq))
                  have HX7 := Lib.hid (HX6.out.below hq)
                  clear hq
                  refine hK.out _ _ ⟨box_at pxgr0_16 HC_7.out, box_at pxgr1_16 HC_7.out, box_at pxgr2_16 HC_7.out, box_at pxbd0_16 HC_7.out, box_at pxbd1_16 HC_7.out, box_at pxen0_16 HC_7.out, box_at pxen1_16 HC_7.out, box_at pxen2_16 HC_7.out, box_at pxen3_16 HC_7.out, box_at pxen4_16 HC_7.out, box_at pxen5_16 HC_7.out, box_at pxwant00_16 HC_7.out, box_at pxwant01_16 HC_7.out, box_at pxxbd0_16 HC_7.out, box_at pxxbd1_16 HC_7.out, box_at pxxen0_16 HC_7.out, box_at pxxen1_16 HC_7.out, box_at pxxen2_16 HC_7.out, box_at pxxen3_16 HC_7.out, box_at pxxen4_16 HC_7.out, box_at pxxen5_16 HC_7.out, box_at pxgot00_16 HC_7.out, box_at pxgot01_16 HC_7.out⟩ (fun _ => ?_)
                  clear hK K
                  (try simp only [Act.put, List.setIfInBounds_toArray, List.set_cons_zero, List.set_cons_succ])
                  repeat (refine' wpV_read _ (by kernel_rfl) (fun w' hS' => ?_) ?_; rotate_left; · ((try dsimp only at hS'); go_simp; (try with_reducible rfl)); (try simp only [Act.put, List.setIfInBounds_toArray, List.set_cons_zero, List.set_cons_succ]))
                  have r0 := HX7.out.cell (i := 0) rfl
                  have r1 := HX7.out.cell (i := 1) rfl
                  have fr := fun j => HX7.out.frozen j
                  have FB := Lib.hid ((HC_7.out.setCell (p := ⟨u_3.heap.size, 0, none⟩) (by show w16.heap.size ≤ u_3.heap.size; omega) (.slice again0_a0 again0_n0 again0_c0)).setCell (p := ⟨u_3.heap.size, 1, none⟩) (by show w16.heap.size ≤ u_3.heap.size; omega) (.slice again0_a1 again0_n1 again0_c1))
                  have FX := Lib.hid ((HX7.out.set 0 (.slice again0_a0 again0_n0 again0_c0)).set 1 (.slice again0_a1 again0_n1 again0_c1))
                  have FO := Lib.hid (Kind.kept (K := (kS rBoard)) OW7.out (((Within.refl (u_3.heap.size) (u_3.heap.size + 1) u_7).setCell (b := u_3.heap.size) (by omega) (by omega) 0 (.slice again0_a0 again0_n0 again0_c0)).setCell (b := u_3.heap.size) (by omega) (by omega) 1 (.slice again0_a1 again0_n1 again0_c1)) (by omega))
                  have fsz := FX.out.lt
                  have fsw := ((((Within.refl (u_3.heap.size) (u_3.heap.size + 1) u_7).setCell (b := u_3.heap.size) (by omega) (by omega) 0 (.slice again0_a0 again0_n0 again0_c0)).setCell (b := u_3.heap.size) (by omega) (by omega) 1 (.slice again0_a1 again0_n1 again0_c1))).size
                  refine wpV_do (by kernel_rfl) (fun K hK => ?_)
                  go_simp
                  refine hK.out _ _ ⟨box_at pxgr0_16 FB.out, box_at pxgr1_16 FB.out, box_at pxgr2_16 FB.out, box_at pxbd0_16 FB.out, box_at pxbd1_16 FB.out, box_at pxen0_16 FB.out, box_at pxen1_16 FB.out, box_at pxen2_16 FB.out, box_at pxen3_16 FB.out, box_at pxen4_16 FB.out, box_at pxen5_16 FB.out, box_at pxwant00_16 FB.out, box_at pxwant01_16 FB.out, box_at pxxbd0_16 FB.out, box_at pxxbd1_16 FB.out, box_at pxxen0_16 FB.out, box_at pxxen1_16 FB.out, box_at pxxen2_16 FB.out, box_at pxxen3_16 FB.out, box_at pxxen4_16 FB.out, box_at pxxen5_16 FB.out, box_at pxgot00_16 FB.out, box_at pxgot01_16 FB.out⟩ (fun _ => ?_)
                  clear hK K
                  (try simp only [Act.put, List.setIfInBounds_toArray, List.set_cons_zero, List.set_cons_succ])
                  refine wpV_done ?_
                  go_wp2_with fail
                  refine NoPanic.normal ?_
                  try (go_wp2_with fail)
                  go_meet
                  exact ⟨u_3.heap.size, u_6.heap.size, u_7.heap.size, _, _, _, _, _, _, rfl, rfl, FB, FO, FX.out.cell (i := 0) rfl, FX.out.cell (i := 1) rfl, by omega, by omega, by omega, by omega, by omega, by omega⟩
                refine wpV_do (by kernel_rfl) (fun K hK => ?_)
                go_simp
                obtain ⟨u_8, hX⟩ : ∃ x0, x0 = (u_2.alloc (.cells #[.slice none 0 0, .slice none 0 0] 36)) := ⟨_, rfl⟩
                have hq : Below u_2.heap.size u_2 u_8 := by rw [hX]; exact ((Below.refl _ _).alloc (Nat.le_refl _) _)
                have HX8 : Hid (BoxN u_8 u_2.heap.size 36 [.slice none 0 0, .slice none 0 0]) := by unfold Hid; rw [hX]; exact BoxN.new u_2 [.slice none 0 0, .slice none 0 0] 36
                have hlt8 := HX8.out.lt
                rw [← hX]
                clear hX
                have HC_8 := Lib.hid (Below.next HC_2.out hq)
                have hsz_8 := hq.size
                have hsw_8 := HC_8.out.size
                have RDbd_8 := Lib.hid (((kS rBoard).rd_below RDbd_2.out hq))
                clear hq
                refine hK.out _ _ ⟨box_at pxgr0_16 HC_8.out, box_at pxgr1_16 HC_8.out, box_at pxgr2_16 HC_8.out, box_at pxbd0_16 HC_8.out, box_at pxbd1_16 HC_8.out, box_at pxen0_16 HC_8.out, box_at pxen1_16 HC_8.out, box_at pxen2_16 HC_8.out, box_at pxen3_16 HC_8.out, box_at pxen4_16 HC_8.out, box_at pxen5_16 HC_8.out, box_at pxwant00_16 HC_8.out, box_at pxwant01_16 HC_8.out, box_at pxxbd0_16 HC_8.out, box_at pxxbd1_16 HC_8.out, box_at pxxen0_16 HC_8.out, box_at pxxen1_16 HC_8.out, box_at pxxen2_16 HC_8.out, box_at pxxen3_16 HC_8.out, box_at pxxen4_16 HC_8.out, box_at pxxen5_16 HC_8.out, box_at pxgot00_16 HC_8.out, box_at pxgot01_16 HC_8.out⟩ (fun _ => ?_)
                clear hK K
                (try simp only [Act.put, List.setIfInBounds_toArray, List.set_cons_zero, List.set_cons_succ])
                refine wpV_do (by kernel_rfl) (fun K hK => ?_)
                go_simp
                go_at_call 20
                refine (laws_toEntry _ len _ ((kS rEntry).rd_below Hen.out (HB16.out.trans (HC_8.out.mono HB16.out.size))) HZen.out).mono ?_
                rintro e u_9 ⟨sen, rfl, hX, hq⟩
                have Osen := Lib.hid hX
                clear hX
                obtain ⟨sen_a2, sen_n2, sen_c2, sen_a3, sen_n3, sen_c3, sen_a4, sen_n4, sen_c4, sen_a5, sen_n5, sen_c5, rfl, hrest⟩ := rdEntry.1 ((kS rEntry).own_rd Osen.out)
                clear hrest
                have RDen_9 := Lib.hid (((kS rEntry).own_rd Osen.out))
                have HC_9 := Lib.hid (Below.next HC_8.out hq)
                have hsz_9 := hq.size
                have hsw_9 := HC_9.out.size
                have RDbd_9 := Lib.hid (((kS rBoard).rd_below RDbd_8.out hq))
                have HX9 := Lib.hid (HX8.out.below hq)
                clear hq
                refine hK.out _ _ ⟨box_at pxgr0_16 HC_9.out, box_at pxgr1_16 HC_9.out, box_at pxgr2_16 HC_9.out, box_at pxbd0_16 HC_9.out, box_at pxbd1_16 HC_9.out, box_at pxen0_16 HC_9.out, box_at pxen1_16 HC_9.out, box_at pxen2_16 HC_9.out, box_at pxen3_16 HC_9.out, box_at pxen4_16 HC_9.out, box_at pxen5_16 HC_9.out, box_at pxwant00_16 HC_9.out, box_at pxwant01_16 HC_9.out, box_at pxxbd0_16 HC_9.out, box_at pxxbd1_16 HC_9.out, box_at pxxen0_16 HC_9.out, box_at pxxen1_16 HC_9.out, box_at pxxen2_16 HC_9.out, box_at pxxen3_16 HC_9.out, box_at pxxen4_16 HC_9.out, box_at pxxen5_16 HC_9.out, box_at pxgot00_16 HC_9.out, box_at pxgot01_16 HC_9.out⟩ (fun _ => ?_)
                clear hK K
                (try simp only [Act.put, List.setIfInBounds_toArray, List.set_cons_zero, List.set_cons_succ])
                refine wpV_do (by kernel_rfl) (fun K hK => ?_)
                go_simp
                go_at_call 21
                refine (impl_AppendEntry gr _ lbd _ len _ Jgr.out HYbd.out RDbd_9.out HYen.out RDen_9.out).mono ?_
                rintro e u_10 ⟨again0, rfl, hX, hq⟩
                rw [HR0.out] at hX
                have OW10 := Lib.hid hX
                clear hX
                obtain ⟨again0_a0, again0_n0, again0_c0, again0_a1, again0_n1, again0_c1, rfl, hrest⟩ := rdBoard.1 ((kS rBoard).own_rd OW10.out)
                clear hrest
                have HC_10 := Lib.hid (Below.next HC_9.out hq)
                have hsz_10 := hq.size
                have hsw_10 := HC_10.out.size
                have RDbd_10 := Lib.hid (((kS rBoard).rd_below RDbd_9.out hq))
                have RDen_10 := Lib.hid (((kS rEntry).rd_below RDen_9.out hq))
                have HX10 := Lib.hid (HX9.out.below hq)
                clear hq
                refine hK.out _ _ ⟨box_at pxgr0_16 HC_10.out, box_at pxgr1_16 HC_10.out, box_at pxgr2_16 HC_10.out, box_at pxbd0_16 HC_10.out, box_at pxbd1_16 HC_10.out, box_at pxen0_16 HC_10.out, box_at pxen1_16 HC_10.out, box_at pxen2_16 HC_10.out, box_at pxen3_16 HC_10.out, box_at pxen4_16 HC_10.out, box_at pxen5_16 HC_10.out, box_at pxwant00_16 HC_10.out, box_at pxwant01_16 HC_10.out, box_at pxxbd0_16 HC_10.out, box_at pxxbd1_16 HC_10.out, box_at pxxen0_16 HC_10.out, box_at pxxen1_16 HC_10.out, box_at pxxen2_16 HC_10.out, box_at pxxen3_16 HC_10.out, box_at pxxen4_16 HC_10.out, box_at pxxen5_16 HC_10.out, box_at pxgot00_16 HC_10.out, box_at pxgot01_16 HC_10.out⟩ (fun _ => ?_)
                clear hK K
                (try simp only [Act.put, List.setIfInBounds_toArray, List.set_cons_zero, List.set_cons_succ])
                repeat (refine' wpV_read _ (by kernel_rfl) (fun w' hS' => ?_) ?_; rotate_left; · ((try dsimp only at hS'); go_simp; (try with_reducible rfl)); (try simp only [Act.put, List.setIfInBounds_toArray, List.set_cons_zero, List.set_cons_succ]))
                have r0 := HX10.out.cell (i := 0) rfl
                have r1 := HX10.out.cell (i := 1) rfl
                have fr := fun j => HX10.out.frozen j
                have FB := Lib.hid ((HC_10.out.setCell (p := ⟨u_2.heap.size, 0, none⟩) (by show w16.heap.size ≤ u_2.heap.size; omega) (.slice again0_a0 again0_n0 again0_c0)).setCell (p := ⟨u_2.heap.size, 1, none⟩) (by show w16.heap.size ≤ u_2.heap.size; omega) (.slice again0_a1 again0_n1 again0_c1))
                have FX := Lib.hid ((HX10.out.set 0 (.slice again0_a0 again0_n0 again0_c0)).set 1 (.slice again0_a1 again0_n1 again0_c1))
                have FO := Lib.hid (Kind.kept (K := (kS rBoard)) OW10.out (((Within.refl (u_2.heap.size) (u_2.heap.size + 1) u_10).setCell (b := u_2.heap.size) (by omega) (by omega) 0 (.slice again0_a0 again0_n0 again0_c0)).setCell (b := u_2.heap.size) (by omega) (by omega) 1 (.slice again0_a1 again0_n1 again0_c1)) (by omega))
                have fsz := FX.out.lt
                have fsw := ((((Within.refl (u_2.heap.size) (u_2.heap.size + 1) u_10).setCell (b := u_2.heap.size) (by omega) (by omega) 0 (.slice again0_a0 again0_n0 again0_c0)).setCell (b := u_2.heap.size) (by omega) (by omega) 1 (.slice again0_a1 again0_n1 again0_c1))).size
                refine wpV_do (by kernel_rfl) (fun K hK => ?_)
                go_simp
                refine hK.out _ _ ⟨box_at pxgr0_16 FB.out, box_at pxgr1_16 FB.out, box_at pxgr2_16 FB.out, box_at pxbd0_16 FB.out, box_at pxbd1_16 FB.out, box_at pxen0_16 FB.out, box_at pxen1_16 FB.out, box_at pxen2_16 FB.out, box_at pxen3_16 FB.out, box_at pxen4_16 FB.out, box_at pxen5_16 FB.out, box_at pxwant00_16 FB.out, box_at pxwant01_16 FB.out, box_at pxxbd0_16 FB.out, box_at pxxbd1_16 FB.out, box_at pxxen0_16 FB.out, box_at pxxen1_16 FB.out, box_at pxxen2_16 FB.out, box_at pxxen3_16 FB.out, box_at pxxen4_16 FB.out, box_at pxxen5_16 FB.out, box_at pxgot00_16 FB.out, box_at pxgot01_16 FB.out⟩ (fun _ => ?_)
                clear hK K
                (try simp only [Act.put, List.setIfInBounds_toArray, List.set_cons_zero, List.set_cons_succ])
                refine wpV_done ?_
                go_wp2_with fail
                refine NoPanic.normal ?_
                try (go_wp2_with fail)
                go_meet
                exact ⟨u_2.heap.size, u_9.heap.size, u_10.heap.size, _, _, _, _, _, _, rfl, rfl, FB, FO, FX.out.cell (i := 0) rfl, FX.out.cell (i := 1) rfl, by omega, by omega, by omega, by omega, by omega, by omega⟩
              refine wpV_do (by kernel_rfl) (fun K hK => ?_)
              go_simp
              obtain ⟨u_11, hX⟩ : ∃ x0, x0 = (u_1.alloc (.cells #[.slice none 0 0, .slice none 0 0] 36)) := ⟨_, rfl⟩
              have hq : Below u_1.heap.size u_1 u_11 := by rw [hX]; exact ((Below.refl _ _).alloc (Nat.le_refl _) _)
              have HX11 : Hid (BoxN u_11 u_1.heap.size 36 [.slice none 0 0, .slice none 0 0]) := by unfold Hid; rw [hX]; exact BoxN.new u_1 [.slice none 0 0, .slice none 0 0] 36
              have hlt11 := HX11.out.lt
              rw [← hX]
              clear hX
              have HC_11 := Lib.hid (Below.next HC_1.out hq)
              have hsz_11 := hq.size
              have hsw_11 := HC_11.out.size
              clear hq
              refine hK.out _ _ ⟨box_at pxgr0_16 HC_11.out, box_at pxgr1_16 HC_11.out, box_at pxgr2_16 HC_11.out, box_at pxbd0_16 HC_11.out, box_at pxbd1_16 HC_11.out, box_at pxen0_16 HC_11.out, box_at pxen1_16 HC_11.out, box_at pxen2_16 HC_11.out, box_at pxen3_16 HC_11.out, box_at pxen4_16 HC_11.out, box_at pxen5_16 HC_11.out, box_at pxwant00_16 HC_11.out, box_at pxwant01_16 HC_11.out, box_at pxxbd0_16 HC_11.out, box_at pxxbd1_16 HC_11.out, box_at pxxen0_16 HC_11.out, box_at pxxen1_16 HC_11.out, box_at pxxen2_16 HC_11.out, box_at pxxen3_16 HC_11.out, box_at pxxen4_16 HC_11.out, box_at pxxen5_16 HC_11.out, box_at pxgot00_16 HC_11.out, box_at pxgot01_16 HC_11.out⟩ (fun _ => ?_)
              clear hK K
              (try simp only [Act.put, List.setIfInBounds_toArray, List.set_cons_zero, List.set_cons_succ])
              refine wpV_do (by kernel_rfl) (fun K hK => ?_)
              go_simp
              go_at_call 19
              refine (laws_toBoard _ lbd _ ((kS rBoard).rd_below Hbd.out (HB16.out.trans (HC_11.out.mono HB16.out.size))) HZbd.out).mono ?_
              rintro e u_12 ⟨sbd, rfl, hX, hq⟩
              have Osbd := Lib.hid hX
              clear hX
              obtain ⟨sbd_a0, sbd_n0, sbd_c0, sbd_a1, sbd_n1, sbd_c1, rfl, hrest⟩ := rdBoard.1 ((kS rBoard).own_rd Osbd.out)
              clear hrest
              have RDbd_12 := Lib.hid (((kS rBoard).own_rd Osbd.out))
              have HC_12 := Lib.hid (Below.next HC_11.out hq)
              have hsz_12 := hq.size
              have hsw_12 := HC_12.out.size
              have HX12 := Lib.hid (HX11.out.below hq)
              clear hq
              refine hK.out _ _ ⟨box_at pxgr0_16 HC_12.out, box_at pxgr1_16 HC_12.out, box_at pxgr2_16 HC_12.out, box_at pxbd0_16 HC_12.out, box_at pxbd1_16 HC_12.out, box_at pxen0_16 HC_12.out, box_at pxen1_16 HC_12.out, box_at pxen2_16 HC_12.out, box_at pxen3_16 HC_12.out, box_at pxen4_16 HC_12.out, box_at pxen5_16 HC_12.out, box_at pxwant00_16 HC_12.out, box_at pxwant01_16 HC_12.out, box_at pxxbd0_16 HC_12.out, box_at pxxbd1_16 HC_12.out, box_at pxxen0_16 HC_12.out, box_at pxxen1_16 HC_12.out, box_at pxxen2_16 HC_12.out, box_at pxxen3_16 HC_12.out, box_at pxxen4_16 HC_12.out, box_at pxxen5_16 HC_12.out, box_at pxgot00_16 HC_12.out, box_at pxgot01_16 HC_12.out⟩ (fun _ => ?_)
              clear hK K
              (try simp only [Act.put, List.setIfInBounds_toArray, List.set_cons_zero, List.set_cons_succ])
              refine wpV_do (by kernel_rfl) (fun K hK => ?_)
              go_simp
              go_at_call 20
              refine (laws_toEntry _ len _ ((kS rEntry).rd_below Hen.out (HB16.out.trans (HC_12.out.mono HB16.out.size))) HZen.out).mono ?_
              rintro e u_13 ⟨sen, rfl, hX, hq⟩
              have Osen := Lib.hid hX
              clear hX
              obtain ⟨sen_a2, sen_n2, sen_c2, sen_a3, sen_n3, sen_c3, sen_a4, sen_n4, sen_c4, sen_a5, sen_n5, sen_c5, rfl, hrest⟩ := rdEntry.1 ((kS rEntry).own_rd Osen.out)
              clear hrest
              have RDen_13 := Lib.hid (((kS rEntry).own_rd Osen.out))
              have HC_13 := Lib.hid (Below.next HC_12.out hq)
              have hsz_13 := hq.size
              have hsw_13 := HC_13.out.size
              have RDbd_13 := Lib.hid (((kS rBoard).rd_below RDbd_12.out hq))
              have HX13 := Lib.hid (HX12.out.below hq)
              clear hq
              refine hK.out _ _ ⟨box_at pxgr0_16 HC_13.out, box_at pxgr1_16 HC_13.out, box_at pxgr2_16 HC_13.out, box_at pxbd0_16 HC_13.out, box_at pxbd1_16 HC_13.out, box_at pxen0_16 HC_13.out, box_at pxen1_16 HC_13.out, box_at pxen2_16 HC_13.out, box_at pxen3_16 HC_13.out, box_at pxen4_16 HC_13.out, box_at pxen5_16 HC_13.out, box_at pxwant00_16 HC_13.out, box_at pxwant01_16 HC_13.out, box_at pxxbd0_16 HC_13.out, box_at pxxbd1_16 HC_13.out, box_at pxxen0_16 HC_13.out, box_at pxxen1_16 HC_13.out, box_at pxxen2_16 HC_13.out, box_at pxxen3_16 HC_13.out, box_at pxxen4_16 HC_13.out, box_at pxxen5_16 HC_13.out, box_at pxgot00_16 HC_13.out, box_at pxgot01_16 HC_13.out⟩ (fun _ => ?_)
              clear hK K
              (try simp only [Act.put, List.setIfInBounds_toArray, List.set_cons_zero, List.set_cons_succ])
              refine wpV_do (by kernel_rfl) (fun K hK => ?_)
              go_simp
              go_at_call 21
              refine (impl_AppendEntry gr _ lbd _ len _ Jgr.out HYbd.out RDbd_13.out HYen.out RDen_13.out).mono ?_
              rintro e u_14 ⟨again0, rfl, hX, hq⟩
              rw [HR0.out] at hX
              have OW14 := Lib.hid hX
              clear hX
              obtain ⟨again0_a0, again0_n0, again0_c0, again0_a1, again0_n1, again0_c1, rfl, hrest⟩ := rdBoard.1 ((kS rBoard).own_rd OW14.out)
              clear hrest
              have HC_14 := Lib.hid (Below.next HC_13.out hq)
              have hsz_14 := hq.size
              have hsw_14 := HC_14.out.size
              have RDbd_14 := Lib.hid (((kS rBoard).rd_below RDbd_13.out hq))
              have RDen_14 := Lib.hid (((kS rEntry).rd_below RDen_13.out hq))
              have HX14 := Lib.hid (HX13.out.below hq)
              clear hq
              refine hK.out _ _ ⟨box_at pxgr0_16 HC_14.out, box_at pxgr1_16 HC_14.out, box_at pxgr2_16 HC_14.out, box_at pxbd0_16 HC_14.out, box_at pxbd1_16 HC_14.out, box_at pxen0_16 HC_14.out, box_at pxen1_16 HC_14.out, box_at pxen2_16 HC_14.out, box_at pxen3_16 HC_14.out, box_at pxen4_16 HC_14.out, box_at pxen5_16 HC_14.out, box_at pxwant00_16 HC_14.out, box_at pxwant01_16 HC_14.out, box_at pxxbd0_16 HC_14.out, box_at pxxbd1_16 HC_14.out, box_at pxxen0_16 HC_14.out, box_at pxxen1_16 HC_14.out, box_at pxxen2_16 HC_14.out, box_at pxxen3_16 HC_14.out, box_at pxxen4_16 HC_14.out, box_at pxxen5_16 HC_14.out, box_at pxgot00_16 HC_14.out, box_at pxgot01_16 HC_14.out⟩ (fun _ => ?_)
              clear hK K
              (try simp only [Act.put, List.setIfInBounds_toArray, List.set_cons_zero, List.set_cons_succ])
              repeat (refine' wpV_read _ (by kernel_rfl) (fun w' hS' => ?_) ?_; rotate_left; · ((try dsimp only at hS'); go_simp; (try with_reducible rfl)); (try simp only [Act.put, List.setIfInBounds_toArray, List.set_cons_zero, List.set_cons_succ]))
              have r0 := HX14.out.cell (i := 0) rfl
              have r1 := HX14.out.cell (i := 1) rfl
              have fr := fun j => HX14.out.frozen j
              have FB := Lib.hid ((HC_14.out.setCell (p := ⟨u_1.heap.size, 0, none⟩) (by show w16.heap.size ≤ u_1.heap.size; omega) (.slice again0_a0 again0_n0 again0_c0)).setCell (p := ⟨u_1.heap.size, 1, none⟩) (by show w16.heap.size ≤ u_1.heap.size; omega) (.slice again0_a1 again0_n1 again0_c1))
              have FX := Lib.hid ((HX14.out.set 0 (.slice again0_a0 again0_n0 again0_c0)).set 1 (.slice again0_a1 again0_n1 again0_c1))
              have FO := Lib.hid (Kind.kept (K := (kS rBoard)) OW14.out (((Within.refl (u_1.heap.size) (u_1.heap.size + 1) u_14).setCell (b := u_1.heap.size) (by omega) (by omega) 0 (.slice again0_a0 again0_n0 again0_c0)).setCell (b := u_1.heap.size) (by omega) (by omega) 1 (.slice again0_a1 again0_n1 again0_c1)) (by omega))
              have fsz := FX.out.lt
              have fsw := ((((Within.refl (u_1.heap.size) (u_1.heap.size + 1) u_14).setCell (b := u_1.heap.size) (by omega) (by omega) 0 (.slice again0_a0 again0_n0 again0_c0)).setCell (b := u_1.heap.size) (by omega) (by omega) 1 (.slice again0_a1 again0_n1 again0_c1))).size
              refine wpV_do (by kernel_rfl) (fun K hK => ?_)
              go_simp
              refine hK.out _ _ ⟨box_at pxgr0_16 FB.out, box_at pxgr1_16 FB.out, box_at pxgr2_16 FB.out, box_at pxbd0_16 FB.out, box_at pxbd1_16 FB.out, box_at pxen0_16 FB.out, box_at pxen1_16 FB.out, box_at pxen2_16 FB.out, box_at pxen3_16 FB.out, box_at pxen4_16 FB.out, box_at pxen5_16 FB.out, box_at pxwant00_16 FB.out, box_at pxwant01_16 FB.out, box_at pxxbd0_16 FB.out, box_at pxxbd1_16 FB.out, box_at pxxen0_16 FB.out, box_at pxxen1_16 FB.out, box_at pxxen2_16 FB.out, box_at pxxen3_16 FB.out, box_at pxxen4_16 FB.out, box_at pxxen5_16 FB.out, box_at pxgot00_16 FB.out, box_at pxgot01_16 FB.out⟩ (fun _ => ?_)
              clear hK K
              (try simp only [Act.put, List.setIfInBounds_toArray, List.set_cons_zero, List.set_cons_succ])
              refine wpV_done ?_
              go_wp2_with fail
              refine NoPanic.normal ?_
              try (go_wp2_with fail)
              go_meet
              exact ⟨u_1.heap.size, u_13.heap.size, u_14.heap.size, _, _, _, _, _, _, rfl, rfl, FB, FO, FX.out.cell (i := 0) rfl, FX.out.cell (i := 1) rfl, by omega, by omega, by omega, by omega, by omega, by omega⟩
            refine wpV_do (by kernel_rfl) (fun K hK => ?_)
            go_simp
            obtain ⟨u_15, hX⟩ : ∃ x0, x0 = (w16.alloc (.cells #[.slice none 0 0, .slice none 0 0] 36)).drew := ⟨_, rfl⟩
            have hq : Below w16.heap.size w16 u_15 := by rw [hX]; exact ((Below.refl _ _).alloc (Nat.le_refl _) _).drew
            have HX15 : Hid (BoxN u_15 w16.heap.size 36 [.slice none 0 0, .slice none 0 0]) := by unfold Hid; rw [hX]; exact BoxN.below (BoxN.new w16 [.slice none 0 0, .slice none 0 0] 36) (Below.refl _ _).drew
            have hlt15 := HX15.out.lt
            rw [← hX]
            clear hX
            have HC_15 : Hid (Below w16.heap.size w16 u_15) := hq
            have hsz_15 := hq.size
            have hsw_15 := HC_15.out.size
            clear hq
            refine hK.out _ _ ⟨box_at pxgr0_16 HC_15.out, box_at pxgr1_16 HC_15.out, box_at pxgr2_16 HC_15.out, box_at pxbd0_16 HC_15.out, box_at pxbd1_16 HC_15.out, box_at pxen0_16 HC_15.out, box_at pxen1_16 HC_15.out, box_at pxen2_16 HC_15.out, box_at pxen3_16 HC_15.out, box_at pxen4_16 HC_15.out, box_at pxen5_16 HC_15.out, box_at pxwant00_16 HC_15.out, box_at pxwant01_16 HC_15.out, box_at pxxbd0_16 HC_15.out, box_at pxxbd1_16 HC_15.out, box_at pxxen0_16 HC_15.out, box_at pxxen1_16 HC_15.out, box_at pxxen2_16 HC_15.out, box_at pxxen3_16 HC_15.out, box_at pxxen4_16 HC_15.out, box_at pxxen5_16 HC_15.out, box_at pxgot00_16 HC_15.out, box_at pxgot01_16 HC_15.out⟩ (fun _ => ?_)
            clear hK K
            (try simp only [Act.put, List.setIfInBounds_toArray, List.set_cons_zero, List.set_cons_succ])
            refine wpV_do (by kernel_rfl) (fun K hK => ?_)
            go_simp
            go_at_call 18
            refine (laws_toGroup gr _).mono ?_
            rintro e u_16 ⟨rfl, hq⟩
            have HC_16 := Lib.hid (Below.next HC_15.out hq)
            have hsz_16 := hq.size
            have hsw_16 := HC_16.out.size
            have HX16 := Lib.hid (HX15.out.below hq)
            clear hq
            refine hK.out _ _ ⟨box_at pxgr0_16 HC_16.out, box_at pxgr1_16 HC_16.out, box_at pxgr2_16 HC_16.out, box_at pxbd0_16 HC_16.out, box_at pxbd1_16 HC_16.out, box_at pxen0_16 HC_16.out, box_at pxen1_16 HC_16.out, box_at pxen2_16 HC_16.out, box_at pxen3_16 HC_16.out, box_at pxen4_16 HC_16.out, box_at pxen5_16 HC_16.out, box_at pxwant00_16 HC_16.out, box_at pxwant01_16 HC_16.out, box_at pxxbd0_16 HC_16.out, box_at pxxbd1_16 HC_16.out, box_at pxxen0_16 HC_16.out, box_at pxxen1_16 HC_16.out, box_at pxxen2_16 HC_16.out, box_at pxxen3_16 HC_16.out, box_at pxxen4_16 HC_16.out, box_at pxxen5_16 HC_16.out, box_at pxgot00_16 HC_16.out, box_at pxgot01_16 HC_16.out⟩ (fun _ => ?_)
            clear hK K
            (try simp only [Act.put, List.setIfInBounds_toArray, List.set_cons_zero, List.set_cons_succ])
            refine wpV_do (by kernel_rfl) (fun K hK => ?_)
            go_simp
            go_at_call 19
            refine (laws_toBoard _ lbd _ ((kS rBoard).rd_below Hbd.out (HB16.out.trans (HC_16.out.mono HB16.out.size))) HZbd.out).mono ?_
            rintro e u_17 ⟨sbd, rfl, hX, hq⟩
            have Osbd := Lib.hid hX
            clear hX
            obtain ⟨sbd_a0, sbd_n0, sbd_c0, sbd_a1, sbd_n1, sbd_c1, rfl, hrest⟩ := rdBoard.1 ((kS rBoard).own_rd Osbd.out)
            clear hrest
            have RDbd_17 := Lib.hid (((kS rBoard).own_rd Osbd.out))
            have HC_17 := Lib.hid (Below.next HC_16.out hq)
            have hsz_17 := hq.size
            have hsw_17 := HC_17.out.size
            have HX17 := Lib.hid (HX16.out.below hq)
            clear hq
            refine hK.out _ _ ⟨box_at pxgr0_16 HC_17.out, box_at pxgr1_16 HC_17.out, box_at pxgr2_16 HC_17.out, box_at pxbd0_16 HC_17.out, box_at pxbd1_16 HC_17.out, box_at pxen0_16 HC_17.out, box_at pxen1_16 HC_17.out, box_at pxen2_16 HC_17.out, box_at pxen3_16 HC_17.out, box_at pxen4_16 HC_17.out, box_at pxen5_16 HC_17.out, box_at pxwant00_16 HC_17.out, box_at pxwant01_16 HC_17.out, box_at pxxbd0_16 HC_17.out, box_at pxxbd1_16 HC_17.out, box_at pxxen0_16 HC_17.out, box_at pxxen1_16 HC_17.out, box_at pxxen2_16 HC_17.out, box_at pxxen3_16 HC_17.out, box_at pxxen4_16 HC_17.out, box_at pxxen5_16 HC_17.out, box_at pxgot00_16 HC_17.out, box_at pxgot01_16 HC_17.out⟩ (fun _ => ?_)
            clear hK K
            (try simp only [Act.put, List.setIfInBounds_toArray, List.set_cons_zero, List.set_cons_succ])
            refine wpV_do (by kernel_rfl) (fun K hK => ?_)
            go_simp
            go_at_call 20
            refine (laws_toEntry _ len _ ((kS rEntry).rd_below Hen.out (HB16.out.trans (HC_17.out.mono HB16.out.size))) HZen.out).mono ?_
            rintro e u_18 ⟨sen, rfl, hX, hq⟩
            have Osen := Lib.hid hX
            clear hX
            obtain ⟨sen_a2, sen_n2, sen_c2, sen_a3, sen_n3, sen_c3, sen_a4, sen_n4, sen_c4, sen_a5, sen_n5, sen_c5, rfl, hrest⟩ := rdEntry.1 ((kS rEntry).own_rd Osen.out)
            clear hrest
            have RDen_18 := Lib.hid (((kS rEntry).own_rd Osen.out))
            have HC_18 := Lib.hid (Below.next HC_17.out hq)
            have hsz_18 := hq.size
            have hsw_18 := HC_18.out.size
            have RDbd_18 := Lib.hid (((kS rBoard).rd_below RDbd_17.out hq))
            have HX18 := Lib.hid (HX17.out.below hq)
            clear hq
            refine hK.out _ _ ⟨box_at pxgr0_16 HC_18.out, box_at pxgr1_16 HC_18.out, box_at pxgr2_16 HC_18.out, box_at pxbd0_16 HC_18.out, box_at pxbd1_16 HC_18.out, box_at pxen0_16 HC_18.out, box_at pxen1_16 HC_18.out, box_at pxen2_16 HC_18.out, box_at pxen3_16 HC_18.out, box_at pxen4_16 HC_18.out, box_at pxen5_16 HC_18.out, box_at pxwant00_16 HC_18.out, box_at pxwant01_16 HC_18.out, box_at pxxbd0_16 HC_18.out, box_at pxxbd1_16 HC_18.out, box_at pxxen0_16 HC_18.out, box_at pxxen1_16 HC_18.out, box_at pxxen2_16 HC_18.out, box_at pxxen3_16 HC_18.out, box_at pxxen4_16 HC_18.out, box_at pxxen5_16 HC_18.out, box_at pxgot00_16 HC_18.out, box_at pxgot01_16 HC_18.out⟩ (fun _ => ?_)
            clear hK K
            (try simp only [Act.put, List.setIfInBounds_toArray, List.set_cons_zero, List.set_cons_succ])
            refine wpV_do (by kernel_rfl) (fun K hK => ?_)
            go_simp
            go_at_call 21
            refine (impl_AppendEntry gr _ lbd _ len _ Jgr.out HYbd.out RDbd_18.out HYen.out RDen_18.out).mono ?_
            rintro e u_19 ⟨again0, rfl, hX, hq⟩
            rw [HR0.out] at hX
            have OW19 := Lib.hid hX
            clear hX
            obtain ⟨again0_a0, again0_n0, again0_c0, again0_a1, again0_n1, again0_c1, rfl, hrest⟩ := rdBoard.1 ((kS rBoard).own_rd OW19.out)
            clear hrest
            have HC_19 := Lib.hid (Below.next HC_18.out hq)
            have hsz_19 := hq.size
            have hsw_19 := HC_19.out.size
            have RDbd_19 := Lib.hid (((kS rBoard).rd_below RDbd_18.out hq))
            have RDen_19 := Lib.hid (((kS rEntry).rd_below RDen_18.out hq))
            have HX19 := Lib.hid (HX18.out.below hq)
            clear hq
            refine hK.out _ _ ⟨box_at pxgr0_16 HC_19.out, box_at pxgr1_16 HC_19.out, box_at pxgr2_16 HC_19.out, box_at pxbd0_16 HC_19.out, box_at pxbd1_16 HC_19.out, box_at pxen0_16 HC_19.out, box_at pxen1_16 HC_19.out, box_at pxen2_16 HC_19.out, box_at pxen3_16 HC_19.out, box_at pxen4_16 HC_19.out, box_at pxen5_16 HC_19.out, box_at pxwant00_16 HC_19.out, box_at pxwant01_16 HC_19.out, box_at pxxbd0_16 HC_19.out, box_at pxxbd1_16 HC_19.out, box_at pxxen0_16 HC_19.out, box_at pxxen1_16 HC_19.out, box_at pxxen2_16 HC_19.out, box_at pxxen3_16 HC_19.out, box_at pxxen4_16 HC_19.out, box_at pxxen5_16 HC_19.out, box_at pxgot00_16 HC_19.out, box_at pxgot01_16 HC_19.out⟩ (fun _ => ?_)
            clear hK K
            (try simp only [Act.put, List.setIfInBounds_toArray, List.set_cons_zero, List.set_cons_succ])
            repeat (refine' wpV_read _ (by kernel_rfl) (fun w' hS' => ?_) ?_; rotate_left; · ((try dsimp only at hS'); go_simp; (try with_reducible rfl)); (try simp only [Act.put, List.setIfInBounds_toArray, List.set_cons_zero, List.set_cons_succ]))
            have r0 := HX19.out.cell (i := 0) rfl
            have r1 := HX19.out.cell (i := 1) rfl
            have fr := fun j => HX19.out.frozen j
            have FB := Lib.hid ((HC_19.out.setCell (p := ⟨w16.heap.size, 0, none⟩) (by show w16.heap.size ≤ w16.heap.size; omega) (.slice again0_a0 again0_n0 again0_c0)).setCell (p := ⟨w16.heap.size, 1, none⟩) (by show w16.heap.size ≤ w16.heap.size; omega) (.slice again0_a1 again0_n1 again0_c1))
            have FX := Lib.hid ((HX19.out.set 0 (.slice again0_a0 again0_n0 again0_c0)).set 1 (.slice again0_a1 again0_n1 again0_c1))
            have FO := Lib.hid (Kind.kept (K := (kS rBoard)) OW19.out (((Within.refl (w16.heap.size) (w16.heap.size + 1) u_19).setCell (b := w16.heap.size) (by omega) (by omega) 0 (.slice again0_a0 again0_n0 again0_c0)).setCell (b := w16.heap.size) (by omega) (by omega) 1 (.slice again0_a1 again0_n1 again0_c1)) (by omega))
            have fsz := FX.out.lt
            have fsw := ((((Within.refl (w16.heap.size) (w16.heap.size + 1) u_19).setCell (b := w16.heap.size) (by omega) (by omega) 0 (.slice again0_a0 again0_n0 again0_c0)).setCell (b := w16.heap.size) (by omega) (by omega) 1 (.slice again0_a1 again0_n1 again0_c1))).size
            refine wpV_do (by kernel_rfl) (fun K hK => ?_)
            go_simp
            refine hK.out _ _ ⟨box_at pxgr0_16 FB.out, box_at pxgr1_16 FB.out, box_at pxgr2_16 FB.out, box_at pxbd0_16 FB.out, box_at pxbd1_16 FB.out, box_at pxen0_16 FB.out, box_at pxen1_16 FB.out, box_at pxen2_16 FB.out, box_at pxen3_16 FB.out, box_at pxen4_16 FB.out, box_at pxen5_16 FB.out, box_at pxwant00_16 FB.out, box_at pxwant01_16 FB.out, box_at pxxbd0_16 FB.out, box_at pxxbd1_16 FB.out, box_at pxxen0_16 FB.out, box_at pxxen1_16 FB.out, box_at pxxen2_16 FB.out, box_at pxxen3_16 FB.out, box_at pxxen4_16 FB.out, box_at pxxen5_16 FB.out, box_at pxgot00_16 FB.out, box_at pxgot01_16 FB.out⟩ (fun _ => ?_)
            clear hK K
            (try simp only [Act.put, List.setIfInBounds_toArray, List.set_cons_zero, List.set_cons_succ])
            refine wpV_done ?_
            go_wp2_with fail
            refine NoPanic.normal ?_
            try (go_wp2_with fail)
            go_meet
            exact ⟨w16.heap.size, u_18.heap.size, u_19.heap.size, _, _, _, _, _, _, rfl, rfl, FB, FO, FX.out.cell (i := 0) rfl, FX.out.cell (i := 1) rfl, by omega, by omega, by omega, by omega, by omega, by omega⟩
          case rest =>
            obtain ⟨BQagain0, LOagain0, HIagain0, again0_a0, again0_n0, again0_c0, again0_a1, again0_n1, again0_c1, rfl, rfl, HSq, HOq, qx0, qx1, hz1again0, hz2again0, hz3again0, hz4again0, hz5again0, hz6again0⟩ := hcut
            obtain ⟨w17, hwj⟩ : ∃ V, V = wc := ⟨_, rfl⟩
            rw [← hwj] at HSq HOq qx0 qx1 hz3again0 hz5again0 ⊢
            clear hwj
            have Oagain0 := HOq
            clear HOq
            have hb17 := HSq.out
            clear HSq
            have pxagain00_17 := qx0
            clear qx0
            have pxagain01_17 := qx1
            clear qx1
            have HB17 := Lib.hid (Below.next HB16.out hb17)
            have hs17 := hb17.size
            have AJ17 := Lib.hid hb17; clear hb17
            have pxgr0_17 := box_at BXgr0.out HB17.out
            clear pxgr0_16
            have pxgr1_17 := box_at BXgr1.out HB17.out
            clear pxgr1_16
            have pxgr2_17 := box_at BXgr2.out HB17.out
            clear pxgr2_16
            have pxbd0_17 := box_at BXbd0.out HB17.out
            clear pxbd0_16
            have pxbd1_17 := box_at BXbd1.out HB17.out
            clear pxbd1_16
            have pxen0_17 := box_at BXen0.out HB17.out
            clear pxen0_16
            have pxen1_17 := box_at BXen1.out HB17.out
            clear pxen1_16
            have pxen2_17 := box_at BXen2.out HB17.out
            clear pxen2_16
            have pxen3_17 := box_at BXen3.out HB17.out
            clear pxen3_16
            have pxen4_17 := box_at BXen4.out HB17.out
            clear pxen4_16
            have pxen5_17 := box_at BXen5.out HB17.out
            clear pxen5_16
            have pxwant00_17 := box_at pxwant00_16 AJ17.out
            clear pxwant00_16
            have pxwant01_17 := box_at pxwant01_16 AJ17.out
            clear pxwant01_16
            have pxxbd0_17 := box_at pxxbd0_16 AJ17.out
            clear pxxbd0_16
            have pxxbd1_17 := box_at pxxbd1_16 AJ17.out
            clear pxxbd1_16
            have pxxen0_17 := box_at pxxen0_16 AJ17.out
            clear pxxen0_16
            have pxxen1_17 := box_at pxxen1_16 AJ17.out
            clear pxxen1_16
            have pxxen2_17 := box_at pxxen2_16 AJ17.out
            clear pxxen2_16
            have pxxen3_17 := box_at pxxen3_16 AJ17.out
            clear pxxen3_16
            have pxxen4_17 := box_at pxxen4_16 AJ17.out
            clear pxxen4_16
            have pxxen5_17 := box_at pxxen5_16 AJ17.out
            clear pxxen5_16
            have pxgot00_17 := box_at pxgot00_16 AJ17.out
            clear pxgot00_16
            have pxgot01_17 := box_at pxgot01_16 AJ17.out
            clear pxgot01_16
            go_wp2_with fail
            refine (laws_eqBoard _ _ _ _ _ ((kS rBoard).own_rd Oagain0.out) ((kS rBoard).own_rd (Kind.next (K := kS rBoard) (Kind.next (K := kS rBoard) (Kind.kept (K := kS rBoard) (Kind.next (K := kS rBoard) (Kind.kept (K := kS rBoard) (Kind.kept (K := kS rBoard) (Kind.next (K := kS rBoard) (Kind.next (K := kS rBoard) (Kind.next (K := kS rBoard) (Kind.next (K := kS rBoard) (Kind.next (K := kS rBoard) (Kind.next (K := kS rBoard) (Kind.next (K := kS rBoard) (Kind.next (K := kS rBoard) Owant0.out AJ4.out) AJ5.out) AJ6.out) AJ7.out) AJ8.out) AJ9.out) AJ10.out) AJ11.out) HG12.out (.inl (by omega))) HG13.out (.inl (by omega))) AJ14.out) HG15.out (.inl (by omega))) AJ16.out) AJ17.out))).mono ?_
            rintro e w18 ⟨rfl, hb18⟩
            rw [decide_eq_true rfl]
            have HB18 := Lib.hid (Below.next HB17.out hb18)
            have hs18 := hb18.size
            have AJ18 := Lib.hid hb18; clear hb18
            have pxgr0_18 := box_at BXgr0.out HB18.out
            clear pxgr0_17
            have pxgr1_18 := box_at BXgr1.out HB18.out
            clear pxgr1_17
            have pxgr2_18 := box_at BXgr2.out HB18.out
            clear pxgr2_17
            have pxbd0_18 := box_at BXbd0.out HB18.out
            clear pxbd0_17
            have pxbd1_18 := box_at BXbd1.out HB18.out
            clear pxbd1_17
            have pxen0_18 := box_at BXen0.out HB18.out
            clear pxen0_17
            have pxen1_18 := box_at BXen1.out HB18.out
            clear pxen1_17
            have pxen2_18 := box_at BXen2.out HB18.out
            clear pxen2_17
            have pxen3_18 := box_at BXen3.out HB18.out
            clear pxen3_17
            have pxen4_18 := box_at BXen4.out HB18.out
            clear pxen4_17
            have pxen5_18 := box_at BXen5.out HB18.out
            clear pxen5_17
            have pxwant00_18 := box_at pxwant00_17 AJ18.out
            clear pxwant00_17
            have pxwant01_18 := box_at pxwant01_17 AJ18.out
            clear pxwant01_17
            have pxxbd0_18 := box_at pxxbd0_17 AJ18.out
            clear pxxbd0_17
            have pxxbd1_18 := box_at pxxbd1_17 AJ18.out
            clear pxxbd1_17
            have pxxen0_18 := box_at pxxen0_17 AJ18.out
            clear pxxen0_17
            have pxxen1_18 := box_at pxxen1_17 AJ18.out
            clear pxxen1_17
            have pxxen2_18 := box_at pxxen2_17 AJ18.out
            clear pxxen2_17
            have pxxen3_18 := box_at pxxen3_17 AJ18.out
            clear pxxen3_17
            have pxxen4_18 := box_at pxxen4_17 AJ18.out
            clear pxxen4_17
            have pxxen5_18 := box_at pxxen5_17 AJ18.out
            clear pxxen5_17
            have pxgot00_18 := box_at pxgot00_17 AJ18.out
            clear pxgot00_17
            have pxgot01_18 := box_at pxgot01_17 AJ18.out
            clear pxgot01_17
            have pxagain00_18 := box_at pxagain00_17 AJ18.out
            clear pxagain00_17
            have pxagain01_18 := box_at pxagain01_17 AJ18.out
            clear pxagain01_17
            go_wp2_with fail
            refine (laws_heldBoard _ 1 _ _ ((kS rBoard).own_rd (Kind.next (K := kS rBoard) (Kind.next (K := kS rBoard) (Kind.next (K := kS rBoard) Ogot0m.out AJ16.out) AJ17.out) AJ18.out)) (by exact LG0.out)).mono ?_
            rintro e w19 ⟨rfl, hb19⟩
            have HB19 := Lib.hid (Below.next HB18.out hb19)
            have hs19 := hb19.size
            have AJ19 := Lib.hid hb19; clear hb19
            have pxgr0_19 := box_at BXgr0.out HB19.out
            clear pxgr0_18
            have pxgr1_19 := box_at BXgr1.out HB19.out
            clear pxgr1_18
            have pxgr2_19 := box_at BXgr2.out HB19.out
            clear pxgr2_18
            have pxbd0_19 := box_at BXbd0.out HB19.out
            clear pxbd0_18
            have pxbd1_19 := box_at BXbd1.out HB19.out
            clear pxbd1_18
            have pxen0_19 := box_at BXen0.out HB19.out
            clear pxen0_18
            have pxen1_19 := box_at BXen1.out HB19.out
            clear pxen1_18
            have pxen2_19 := box_at BXen2.out HB19.out
            clear pxen2_18
            have pxen3_19 := box_at BXen3.out HB19.out
            clear pxen3_18
            have pxen4_19 := box_at BXen4.out HB19.out
            clear pxen4_18
            have pxen5_19 := box_at BXen5.out HB19.out
            clear pxen5_18
            have pxwant00_19 := box_at pxwant00_18 AJ19.out
            clear pxwant00_18
            have pxwant01_19 := box_at pxwant01_18 AJ19.out
            clear pxwant01_18
            have pxxbd0_19 := box_at pxxbd0_18 AJ19.out
            clear pxxbd0_18
            have pxxbd1_19 := box_at pxxbd1_18 AJ19.out
            clear pxxbd1_18
            have pxxen0_19 := box_at pxxen0_18 AJ19.out
            clear pxxen0_18
            have pxxen1_19 := box_at pxxen1_18 AJ19.out
            clear pxxen1_18
            have pxxen2_19 := box_at pxxen2_18 AJ19.out
            clear pxxen2_18
            have pxxen3_19 := box_at pxxen3_18 AJ19.out
            clear pxxen3_18
            have pxxen4_19 := box_at pxxen4_18 AJ19.out
            clear pxxen4_18
            have pxxen5_19 := box_at pxxen5_18 AJ19.out
            clear pxxen5_18
            have pxgot00_19 := box_at pxgot00_18 AJ19.out
            clear pxgot00_18
            have pxgot01_19 := box_at pxgot01_18 AJ19.out
            clear pxgot01_18
            have pxagain00_19 := box_at pxagain00_18 AJ19.out
            clear pxagain00_18
            have pxagain01_19 := box_at pxagain01_18 AJ19.out
            clear pxagain01_18
            go_wp2_with fail
            go_ret
            exact ⟨rfl, HWB.out.trans (HB19.out.mono HWB.out.size)⟩
end Go.Proofs.Ytboahnklilmdpaa
