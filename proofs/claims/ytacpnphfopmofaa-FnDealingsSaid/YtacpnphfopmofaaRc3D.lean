/- Secrets from shares: walks of Reconstruct (printed by gen_rc2.py). -/
import Derived.Test.YtacpnphfopmofaaRc1D
import Derived.Test.YtacpnphfopmofaaDeaLD
namespace Go.Proofs.Ytacpnphfopmofaa
open Go.RowKit
set_option linter.unusedSimpArgs false
set_option linter.unusedVariables false

theorem asB_parts {gr : GroupD} {cs ix ss : List Int} (h : asB gr cs ix ss = true) : shG gr = true ∧ cmsB gr cs = true ∧ trL ix = true ∧ ss.length = ix.length ∧ ss.all (expB gr) = true := by
  unfold asB at h
  simp only [Bool.and_eq_true, decide_eq_true_iff] at h
  exact ⟨h.1, h.2.1, h.2.2.1, h.2.2.2.1, h.2.2.2.2⟩
set_option maxRecDepth 100000 in
set_option maxHeartbeats 2000000 in
theorem impl_Reconstruct (gr : GroupD) (cv : Value) (cs : List Int) (iv : Value) (ix : List Int) (sv : Value) (ss : List Int) (w : World) (hcs : Ints w cv cs) (hix : Ints w iv ix) (hss : Ints w sv ss) :
    Calls Try.prog 28 #[.agg #[.int .i64 gr.p, .int .i64 gr.q, .int .i64 gr.g], cv, iv, sv] w fun e w' => e = .returned (.tuple #[.int .i64 (rcR gr cs ix ss), .bool (rcB gr cs ix ss)]) ∧ Below w.heap.size w w' := by
  obtain ⟨cva, cvn, cvc, rfl⟩ := hcs.shape
  have Ecv := Lib.hid hcs.len
  have Kcv := Lib.hid hcs.capMax
  have Hcv := Lib.hid hcs
  clear hcs
  obtain ⟨iva, ivn, ivc, rfl⟩ := hix.shape
  have Eiv := Lib.hid hix.len
  have Kiv := Lib.hid hix.capMax
  have Hiv := Lib.hid hix
  clear hix
  obtain ⟨sva, svn, svc, rfl⟩ := hss.shape
  have Esv := Lib.hid hss.len
  have Ksv := Lib.hid hss.capMax
  have Hsv := Lib.hid hss
  clear hss
  obtain ⟨W, hW⟩ : ∃ W, W = w.alloc (.cells #[.int .i64 gr.p, .int .i64 gr.q, .int .i64 gr.g] 24) := ⟨_, rfl⟩
  have HB : Hid (Below w.heap.size w W) := by unfold Hid; rw [hW]; (repeat (first | exact Below.refl _ _ | assumption | refine Below.drew ?_ | refine Below.alloc ?_ (by first | (simp; done) | (simp; omega)) _ | refine Below.setCell ?_ (by first | (simp; done) | (simp; omega)) _))
  have c0_0 : W.cell? ⟨w.heap.size, 0, none⟩ = some (.int .i64 gr.p) := by rw [hW]; simp [go_sem]
  have c0_1 : W.cell? ⟨w.heap.size, 1, none⟩ = some (.int .i64 gr.q) := by rw [hW]; simp [go_sem]
  have c0_2 : W.cell? ⟨w.heap.size, 2, none⟩ = some (.int .i64 gr.g) := by rw [hW]; simp [go_sem]
  have HSW : Hid (W.heap.size = w.heap.size + 1) := by unfold Hid; rw [hW]; simp
  go_enter Try.func28, Try.ntmps28
  go_wp2_with fail
  rw [← hW]
  have hse : w.heap.size + 1 = W.heap.size := by have := HSW.out; omega
  (try rw [hse])
  clear hse
  clear hW
  have hc : Below W.heap.size W W := Below.refl _ _
  have HCC : Hid (∀ u, Below W.heap.size W u → u.cell? ⟨w.heap.size, 0, none⟩ = some (.int .i64 gr.p) ∧ u.cell? ⟨w.heap.size, 1, none⟩ = some (.int .i64 gr.q) ∧ u.cell? ⟨w.heap.size, 2, none⟩ = some (.int .i64 gr.g)) := fun u h => ⟨box_at c0_0 h, box_at c0_1 h, box_at c0_2 h⟩
  go_wp2_with fail
  refine (impl_areSharesOf gr _ cs _ ix _ ss _ (Hcv.out.below (HB.out.trans (hc.mono HB.out.size))) (Hiv.out.below (HB.out.trans (hc.mono HB.out.size))) (Hsv.out.below (HB.out.trans (hc.mono HB.out.size)))).mono ?_
  rintro e u1 ⟨rfl, hq1⟩
  replace hc := Below.next hc hq1
  clear hq1 c0_0 c0_1 c0_2
  obtain ⟨c0_0, c0_1, c0_2⟩ := HCC.out _ hc
  cases hc1 : asB gr cs ix ss with
  | false =>
    have Hhc1 := Lib.hid hc1
    clear hc1
    go_wp2_with fail
    have HV : Hid ((.tuple #[.int .i64 (rcR gr cs ix ss), .bool (rcB gr cs ix ss)] : Value) = .tuple #[.int .i64 0, .bool false]) := by unfold Hid; simp [rcR, rcB, vaR, Hhc1.out]
    go_ret2
    exact ⟨congrArg Ending.returned HV.out.symm, HB.out.trans (hc.mono HB.out.size)⟩
  | true =>
    have HAS := Lib.hid (asB_parts hc1)
    have Hhc1 := Lib.hid hc1
    clear hc1
    go_wp2_with fail
    refine (impl_valueAt gr _ cs _ ix _ ss 0 _ (Hcv.out.below (HB.out.trans (hc.mono HB.out.size))) (Hiv.out.below (HB.out.trans (hc.mono HB.out.size))) (Hsv.out.below (HB.out.trans (hc.mono HB.out.size))) HAS.out.1 HAS.out.2.1 HAS.out.2.2.1 HAS.out.2.2.2.1 HAS.out.2.2.2.2 ⟨by decide, by decide⟩).mono ?_
    rintro e u2 ⟨rfl, hq2⟩
    replace hc := Below.next hc hq2
    clear hq2 c0_0 c0_1 c0_2
    obtain ⟨c0_0, c0_1, c0_2⟩ := HCC.out _ hc
    cases hc2 : vaB gr cs ix ss with
    | false =>
      have Hhc2 := Lib.hid hc2
      clear hc2
      go_wp2_with fail
      have HV : Hid ((.tuple #[.int .i64 (rcR gr cs ix ss), .bool (rcB gr cs ix ss)] : Value) = .tuple #[.int .i64 (vaR gr cs ix ss 0), .bool false]) := by unfold Hid; simp [rcR, rcB, vaR, Hhc1.out, Hhc2.out]
      go_ret2
      exact ⟨congrArg Ending.returned HV.out.symm, HB.out.trans (hc.mono HB.out.size)⟩
    | true =>
      have Hhc2 := Lib.hid hc2
      clear hc2
      go_wp2_with fail
      have HV : Hid ((.tuple #[.int .i64 (rcR gr cs ix ss), .bool (rcB gr cs ix ss)] : Value) = .tuple #[.int .i64 (vaR gr cs ix ss 0), .bool true]) := by unfold Hid; simp [rcR, rcB, vaR, Hhc1.out, Hhc2.out]
      go_ret2
      exact ⟨congrArg Ending.returned HV.out.symm, HB.out.trans (hc.mono HB.out.size)⟩
set_option maxRecDepth 100000 in
set_option maxHeartbeats 2000000 in
theorem spec_Reconstruct (gr : GroupD) (cv : Value) (cs : List Int) (iv : Value) (ix : List Int) (sv : Value) (ss : List Int) (w : World) (hcs : Ints w cv cs) (hix : Ints w iv ix) (hss : Ints w sv ss) :
    Calls Try.prog 29 #[.agg #[.int .i64 gr.p, .int .i64 gr.q, .int .i64 gr.g], cv, iv, sv] w fun e w' => e = .returned (.tuple #[.int .i64 (rcR gr cs ix ss), .bool (rcB gr cs ix ss)]) ∧ Below w.heap.size w w' := by
  obtain ⟨cva, cvn, cvc, rfl⟩ := hcs.shape
  have Ecv := Lib.hid hcs.len
  have Kcv := Lib.hid hcs.capMax
  have Hcv := Lib.hid hcs
  clear hcs
  obtain ⟨iva, ivn, ivc, rfl⟩ := hix.shape
  have Eiv := Lib.hid hix.len
  have Kiv := Lib.hid hix.capMax
  have Hiv := Lib.hid hix
  clear hix
  obtain ⟨sva, svn, svc, rfl⟩ := hss.shape
  have Esv := Lib.hid hss.len
  have Ksv := Lib.hid hss.capMax
  have Hsv := Lib.hid hss
  clear hss
  obtain ⟨W, hW⟩ : ∃ W, W = w.alloc (.cells #[.int .i64 gr.p, .int .i64 gr.q, .int .i64 gr.g] 24) := ⟨_, rfl⟩
  have HB : Hid (Below w.heap.size w W) := by unfold Hid; rw [hW]; (repeat (first | exact Below.refl _ _ | assumption | refine Below.drew ?_ | refine Below.alloc ?_ (by first | (simp; done) | (simp; omega)) _ | refine Below.setCell ?_ (by first | (simp; done) | (simp; omega)) _))
  have c0_0 : W.cell? ⟨w.heap.size, 0, none⟩ = some (.int .i64 gr.p) := by rw [hW]; simp [go_sem]
  have c0_1 : W.cell? ⟨w.heap.size, 1, none⟩ = some (.int .i64 gr.q) := by rw [hW]; simp [go_sem]
  have c0_2 : W.cell? ⟨w.heap.size, 2, none⟩ = some (.int .i64 gr.g) := by rw [hW]; simp [go_sem]
  have HSW : Hid (W.heap.size = w.heap.size + 1) := by unfold Hid; rw [hW]; simp
  go_enter Try.func29, Try.ntmps29
  go_wp2_with fail
  rw [← hW]
  have hse : w.heap.size + 1 = W.heap.size := by have := HSW.out; omega
  (try rw [hse])
  clear hse
  clear hW
  have hc : Below W.heap.size W W := Below.refl _ _
  have HCC : Hid (∀ u, Below W.heap.size W u → u.cell? ⟨w.heap.size, 0, none⟩ = some (.int .i64 gr.p) ∧ u.cell? ⟨w.heap.size, 1, none⟩ = some (.int .i64 gr.q) ∧ u.cell? ⟨w.heap.size, 2, none⟩ = some (.int .i64 gr.g)) := fun u h => ⟨box_at c0_0 h, box_at c0_1 h, box_at c0_2 h⟩
  go_wp2_with fail
  refine (spec_sGroup gr _).mono ?_
  rintro e u1 ⟨rfl, hq1⟩
  replace hc := Below.next hc hq1
  clear hq1 c0_0 c0_1 c0_2
  obtain ⟨c0_0, c0_1, c0_2⟩ := HCC.out _ hc
  cases hc1 : shG gr with
  | false =>
    have Hhc1 := Lib.hid hc1
    clear hc1
    go_wp2_with fail
    have HV : Hid ((.tuple #[.int .i64 (rcR gr cs ix ss), .bool (rcB gr cs ix ss)] : Value) = .tuple #[.int .i64 0, .bool false]) := by unfold Hid; simp [rcR, rcB, asB, trL, Hhc1.out]
    go_ret2
    exact ⟨congrArg Ending.returned HV.out.symm, HB.out.trans (hc.mono HB.out.size)⟩
  | true =>
    have HG := Lib.hid (shG_ok hc1)
    have Hhc1 := Lib.hid hc1
    clear hc1
    go_wp2_with fail
    refine (spec_sCommits gr _ cs _ HG.out (Hcv.out.below (HB.out.trans (hc.mono HB.out.size)))).mono ?_
    rintro e u2 ⟨rfl, hq2⟩
    replace hc := Below.next hc hq2
    clear hq2 c0_0 c0_1 c0_2
    obtain ⟨c0_0, c0_1, c0_2⟩ := HCC.out _ hc
    cases hc2 : cmsB gr cs with
    | false =>
      have Hhc2 := Lib.hid hc2
      clear hc2
      go_wp2_with fail
      have HV : Hid ((.tuple #[.int .i64 (rcR gr cs ix ss), .bool (rcB gr cs ix ss)] : Value) = .tuple #[.int .i64 0, .bool false]) := by unfold Hid; simp [rcR, rcB, asB, trL, Hhc1.out, Hhc2.out]
      go_ret2
      exact ⟨congrArg Ending.returned HV.out.symm, HB.out.trans (hc.mono HB.out.size)⟩
    | true =>
      have Hhc2 := Lib.hid hc2
      clear hc2
      cases hc3 : decide (7 < (ivn : Int)) with
      | false =>
        have HL7 : Hid True := trivial
        go_wp2_with fail
        refine (spec_l1All _ ix 1 7 _ (Hiv.out.below (HB.out.trans (hc.mono HB.out.size)))).mono ?_
        rintro e u3 ⟨rfl, rfl⟩
        cases hc4 : ix.all (fun x => decide (1 ≤ x ∧ x ≤ 7)) with
        | false =>
          have HT4 : Hid (trL ix = false) := by unfold Hid trL; rw [hc4]; rfl
          have Hhc4 := Lib.hid hc4
          clear hc4
          go_wp2_with fail
          have HV : Hid ((.tuple #[.int .i64 (rcR gr cs ix ss), .bool (rcB gr cs ix ss)] : Value) = .tuple #[.int .i64 0, .bool false]) := by unfold Hid; simp [rcR, rcB, asB, Hhc1.out, Hhc2.out, HL7.out, HT4.out]
          go_ret2
          exact ⟨congrArg Ending.returned HV.out.symm, HB.out.trans (hc.mono HB.out.size)⟩
        | true =>
          have HT4 : Hid True := trivial
          have Hhc4 := Lib.hid hc4
          clear hc4
          go_wp2_with fail
          refine (spec_yPoints _ ix _ (Hiv.out.below (HB.out.trans (hc.mono HB.out.size)))).mono ?_
          rintro e u4 ⟨rfl, rfl⟩
          cases hc5 : ptsB ix with
          | false =>
            have Hhc5 := Lib.hid hc5
            clear hc5
            go_wp2_with fail
            have HV : Hid ((.tuple #[.int .i64 (rcR gr cs ix ss), .bool (rcB gr cs ix ss)] : Value) = .tuple #[.int .i64 0, .bool false]) := by unfold Hid; simp [rcR, rcB, asB, trL, Hhc1.out, Hhc2.out, Hhc5.out, HL7.out, HT4.out]
            go_ret2
            exact ⟨congrArg Ending.returned HV.out.symm, HB.out.trans (hc.mono HB.out.size)⟩
          | true =>
            have Hhc5 := Lib.hid hc5
            clear hc5
            cases hc6 : ((svn : Int) != (ivn : Int)) with
            | false =>
              have HLT : Hid (decide (ss.length = ix.length) = true) := by have q := hc6; rw [bne_eq_false_iff_eq] at q; have := Eiv.out; have := Esv.out; unfold Hid; exact decide_eq_true (by omega)
              go_wp2_with fail
              refine (spec_gExps gr _ ss _ HG.out (Hsv.out.below (HB.out.trans (hc.mono HB.out.size)))).mono ?_
              rintro e u5 ⟨rfl, hq5⟩
              replace hc := Below.next hc hq5
              clear hq5 c0_0 c0_1 c0_2
              obtain ⟨c0_0, c0_1, c0_2⟩ := HCC.out _ hc
              cases hc7 : ss.all (expB gr) with
              | false =>
                have Hhc7 := Lib.hid hc7
                clear hc7
                go_wp2_with fail
                have HV : Hid ((.tuple #[.int .i64 (rcR gr cs ix ss), .bool (rcB gr cs ix ss)] : Value) = .tuple #[.int .i64 0, .bool false]) := by unfold Hid; simp [rcR, rcB, asB, trL, Hhc1.out, Hhc2.out, Hhc5.out, Hhc7.out, HL7.out, HT4.out, HLT.out]
                go_ret2
                exact ⟨congrArg Ending.returned HV.out.symm, HB.out.trans (hc.mono HB.out.size)⟩
              | true =>
                have Hhc7 := Lib.hid hc7
                clear hc7
                go_wp2_with fail
                have HAS : Hid (asB gr cs ix ss = true) := by unfold Hid asB trL; rw [Hhc1.out, Hhc2.out, Hhc4.out, Hhc5.out, Hhc7.out, HLT.out]; rfl
                obtain ⟨hG, hcm, htr, hl, hel⟩ := asB_parts HAS.out
                obtain ⟨hpr, hq2, hq7⟩ := shG_prm hG
                have HPR := Lib.hid hpr
                have HQ7 := Lib.hid hq7
                have HG := Lib.hid (shG_ok hG)
                have HEL := Lib.hid (cmsB_small (shG_ok hG) hcm)
                have HCN : Hid (cs.length ≤ 1000) := cmsB_le hcm
                have HTR := Lib.hid (trL_parts htr)
                have HI7 := Lib.hid (tr_len htr)
                have HPF := Lib.hid (pk_f (cs := cs) hq7 htr hl hel)
                have HSL := Lib.hid hl
                have hq0 : 0 < gr.q := by omega
                clear hG hcm htr hl hel
                have HBW := Lib.hid (HB.out.trans (hc.mono HB.out.size))
                have C0 := Lib.hid c0_0
                have C1 := Lib.hid c0_1
                have C2 := Lib.hid c0_2
                have HR0 : Hid (RowsI u5 u5.heap.size [(.slice none 0 0, []), (.slice none 0 0, [])]) := RowsI.mk2 (OwnI.nil _ _) (OwnI.nil _ _) (fun k h => by cases h)
                have HB0 : Hid (Below u5.heap.size u5 u5) := Below.refl _ _
                clear hc c0_0 c0_1 c0_2 HB HCC
                go_loopg [10, 11, 53] ivn (fun gk xv yv jv wr => ∃ (k : Nat) (xv' yv' : Value) (lx ly : List Int), k + gk = ivn ∧ jv = .int .i64 (k : Int) ∧ Hid (pk gr cs ix ss k = (lx, ly) ∧ xv = xv' ∧ yv = yv') ∧ Hid (RowsI wr u5.heap.size [(xv', lx), (yv', ly)]) ∧ Hid (Below u5.heap.size u5 wr))
                case atStart => exact ⟨0, _, _, [], [], by omega, rfl, Lib.hid ⟨rfl, rfl, rfl⟩, HR0, HB0⟩
                case round =>
                  obtain ⟨k, xv', yv', lx, ly, hkg, rfl, HPK, HR, HB⟩ := hrel
                  obtain ⟨HPE, rfl, rfl⟩ := HPK.out
                  have HPE := Lib.hid HPE
                  clear HPK
                  have HOX := Lib.hid (HR.out.own 0 _ _ rfl)
                  have HOY := Lib.hid (HR.out.own 1 _ _ rfl)
                  obtain ⟨xa, xc, rfl⟩ := HOX.out.shape
                  obtain ⟨ya, yc, rfl⟩ := HOY.out.shape
                  have HPS : Hid (k ≤ ix.length → lx.length = ly.length ∧ lx.length ≤ k) := fun hk => by have h := pk_s gr cs ix ss HSL.out k hk; rw [HPE.out] at h; exact ⟨h.len, h.le⟩
                  have hps := HPS.out (by have := Eiv.out; omega)
                  obtain ⟨xn, hxn⟩ : ∃ z, lx.length = z := ⟨_, rfl⟩
                  have hyn : ly.length = xn := by omega
                  rw [hxn, hyn] at HR
                  rw [hxn] at HOX
                  rw [hyn] at HOY
                  rw [hxn, hyn]
                  have HXN := Lib.hid hxn
                  have HYN := Lib.hid hyn
                  have hxk : xn ≤ k := by omega
                  have hi7 : ivn ≤ 7 := by have := HI7.out; have := Eiv.out; omega
                  clear hxn hyn hps
                  by_cases hlt : k < ivn
                  · have hgk : ivn - (k + 1) < gk := by omega
                    obtain ⟨b, o, hia, hcx⟩ := Hiv.out.at_ (by omega)
                    have x1 := box_at (box_at (hcx k hlt) HBW.out) HB.out
                    subst hia
                    clear hcx
                    obtain ⟨sb, so, hsa, hcy⟩ := Hsv.out.at_ (by have := Esv.out; have := HSL.out; have := Eiv.out; omega)
                    have y1W := box_at (hcy k (by have := Esv.out; have := HSL.out; have := Eiv.out; omega)) HBW.out
                    subst hsa
                    clear hcy
                    have hsn : (k : Int) < (svn : Int) := by have := Esv.out; have := HSL.out; have := Eiv.out; omega
                    have hxb : 0 ≤ nth ix k ∧ nth ix k ≤ 1000 := by
                      have := HTR.out.1 (nth ix k) (by rw [nthE (by rw [Eiv.out]; exact hlt)]; exact List.getElem_mem _)
                      omega
                    have HYI : Hid (I64 (nth ss k)) := nth_64 Hsv.out k
                    have HPY : Hid (lx.length < cs.length → shrB gr cs (nth ix k) (nth ss k) = true → pk gr cs ix ss (k + 1) = (lx ++ [nth ix k], ly ++ [nth ss k])) := fun h1 h2 => pk_yes HPE.out h1 h2
                    have HP1 : Hid (¬ lx.length < cs.length → pk gr cs ix ss (k + 1) = (lx, ly)) := fun h => pk_no1 HPE.out h
                    have HP2 : Hid (shrB gr cs (nth ix k) (nth ss k) = false → pk gr cs ix ss (k + 1) = (lx, ly)) := fun h => pk_no2 HPE.out h
                    obtain ⟨x, hx⟩ : ∃ z, nth ix k = z := ⟨_, rfl⟩
                    obtain ⟨y, hy⟩ : ∃ z, nth ss k = z := ⟨_, rfl⟩
                    rw [hx] at x1 hxb HPY HP2
                    rw [hy] at y1W HYI HPY HP2
                    clear hx hy
                    have HXB := Lib.hid hxb
                    have HXI : Hid (I64 x) := ⟨by omega, by omega⟩
                    have b0 : (0 : Int) ≤ (k : Int) := by omega
                    have bk1 : (k : Int) < (ivn : Int) := by omega
                    have hwk : IntKind.i64.wrap ((k : Int) + 1) = (k : Int) + 1 := IntWalk.i64_in _ (by omega)
                    have Hcvr : Hid (Ints wr (.slice cva cvn cvc) cs) := (Hcv.out.below HBW.out).below HB.out
                    have c0 := box_at C0.out HB.out
                    have c1 := box_at C1.out HB.out
                    have c2 := box_at C2.out HB.out
                    have y1 := box_at y1W HB.out
                    go_wp2_with fail
                    clear x1
                    have hc : Below wr.heap.size wr wr := Below.refl _ _
                    by_cases hcc : xn < cvn
                    · have q1 : decide ((xn : Int) < (cvn : Int)) = true := decide_eq_true (by omega)
                      have q1n : decide (xn < cvn) = true := decide_eq_true hcc
                      have HCC : Hid (lx.length < cs.length) := by have := HXN.out; have := Ecv.out; unfold Hid; omega
                      clear hcc
                      obtain ⟨qs, hqs⟩ : ∃ z, shrB gr cs x y = z := ⟨_, rfl⟩
                      have HQ := Lib.hid hqs
                      clear hqs
                      cases qs with
                      | true =>
                        have HNX : Hid (pk gr cs ix ss (k + 1) = (lx ++ [x], ly ++ [y])) := HPY.out HCC.out HQ.out
                        try (go_wp2_with fail)
                        refine wp_region_noPanic ?_
                        refine wp_region_P (fun w' => w'.cell? ⟨w.heap.size, 0, none⟩ = some (.int .i64 gr.p) ∧ w'.cell? ⟨w.heap.size, 1, none⟩ = some (.int .i64 gr.q) ∧ w'.cell? ⟨w.heap.size, 2, none⟩ = some (.int .i64 gr.g) ∧ w'.cell? ⟨sb, so + k, none⟩ = some (.int .i64 y)) 17 [(0, []), (1, [0]), (2, []), (3, [0]), (4, [2, 0]), (5, [0]), (6, [0]), (7, [1]), (8, [2]), (9, [3]), (10, [4]), (11, [1, 0, 5]), (12, [0, 6]), (13, [6, 5, 4, 0, 7]), (14, [8, 0])] [] (by kernel_rfl) (by kernel_rfl) (by kernel_rfl) rfl (fun _ _ _ _ h => h) (fun w' h => ⟨box_at c0 h, box_at c1 h, box_at c2 h, box_at y1 h⟩) ?_
                        simp only [pickP, pickN, List.getElem?_cons_zero, List.getElem?_cons_succ]
                        iterate 6 (refine' chainP_read _ rfl rfl (fun w' hS' => ?_) ?_; rotate_left; · (simp only [lookP, allP, Act.put, List.getElem?_cons_zero, List.getElem?_cons_succ, List.setIfInBounds_toArray, List.set_cons_zero, List.set_cons_succ]; (try dsimp only at hS'); go_simp; (try with_reducible rfl)))
                        -- 6: load 24 t4
                        refine' chainP_readG (d := (some 64)) _ rfl (fun w' hS' => ?_) ?_; rotate_left
                        · simp only [lookP, allP, Act.put, List.getElem?_cons_zero, List.getElem?_cons_succ, List.setIfInBounds_toArray, List.set_cons_zero, List.set_cons_succ]
                          refine ⟨by kernel_rfl, ?_⟩
                          (try dsimp only at hS')
                          go_simp
                          (try with_reducible rfl)
                        -- 7: move t1
                        refine' chainP_readG (d := (some 65)) _ rfl (fun w' hS' => ?_) ?_; rotate_left
                        · simp only [lookP, allP, Act.put, List.getElem?_cons_zero, List.getElem?_cons_succ, List.setIfInBounds_toArray, List.set_cons_zero, List.set_cons_succ]
                          refine ⟨by kernel_rfl, ?_⟩
                          (try dsimp only at hS')
                          go_simp
                          (try with_reducible rfl)
                        -- 8: move t13
                        refine' chainP_readG (d := (some 66)) _ rfl (fun w' hS' => ?_) ?_; rotate_left
                        · simp only [lookP, allP, Act.put, List.getElem?_cons_zero, List.getElem?_cons_succ, List.setIfInBounds_toArray, List.set_cons_zero, List.set_cons_succ]
                          refine ⟨by kernel_rfl, ?_⟩
                          (try dsimp only at hS')
                          go_simp
                          (try with_reducible rfl)
                        -- 9: move t3
                        refine' chainP_readG (d := (some 67)) _ rfl (fun w' hS' => ?_) ?_; rotate_left
                        · simp only [lookP, allP, Act.put, List.getElem?_cons_zero, List.getElem?_cons_succ, List.setIfInBounds_toArray, List.set_cons_zero, List.set_cons_succ]
                          refine ⟨by kernel_rfl, ?_⟩
                          (try dsimp only at hS')
                          go_simp
                          (try with_reducible rfl)
                        -- 10: move t12
                        refine' chainP_readG (d := (some 68)) _ rfl (fun w' hS' => ?_) ?_; rotate_left
                        · simp only [lookP, allP, Act.put, List.getElem?_cons_zero, List.getElem?_cons_succ, List.setIfInBounds_toArray, List.set_cons_zero, List.set_cons_succ]
                          refine ⟨by kernel_rfl, ?_⟩
                          (try dsimp only at hS')
                          go_simp
                          (try with_reducible rfl)
                        -- 11: indexAddr 43 t67 t68
                        refine' chainP_readG (d := (some 69)) _ rfl (fun w' hS' => ?_) ?_; rotate_left
                        · simp only [lookP, allP, Act.put, List.getElem?_cons_zero, List.getElem?_cons_succ, List.setIfInBounds_toArray, List.set_cons_zero, List.set_cons_succ]
                          refine ⟨by kernel_rfl, ?_⟩
                          (try dsimp only at hS')
                          go_simp
                          (try with_reducible rfl)
                        -- 12: load 3 t69
                        refine' chainP_readG (d := (some 70)) _ rfl (fun w' hS' => ?_) ?_; rotate_left
                        · simp only [lookP, allP, Act.put, List.getElem?_cons_zero, List.getElem?_cons_succ, List.setIfInBounds_toArray, List.set_cons_zero, List.set_cons_succ]
                          refine ⟨by kernel_rfl, ?_⟩
                          (try dsimp only at hS')
                          go_simp
                          (try with_reducible rfl)
                        -- 13: call { callee := value (func 130), args := #[t64, t65, t66, t70], argTypes := #[24, 43, 3, 3] }
                        refine chainP_callG (d := (some 71)) (.bool true) rfl (fun w' hS' => ?_) ?_
                        · simp only [lookP, allP, Act.put, List.getElem?_cons_zero, List.getElem?_cons_succ, List.setIfInBounds_toArray, List.set_cons_zero, List.set_cons_succ]
                          refine ⟨by kernel_rfl, ?_⟩
                          intro K hK
                          go_simp
                          go_at_call 114
                          refine (spec_sFits gr _ cs x y _ HG.out (Hcvr.out.below hS'.1) HEL.out HCN.out HXB.out HYI.out).mono ?_
                          rintro e u ⟨rfl, hq⟩
                          rw [HQ.out]
                          exact hK.out _ hq
                        -- 14: pick t63 t71 (const (bool false))
                        refine' chainP_read (d := (some 72)) _ rfl rfl (fun w' hS' => ?_) ?_; rotate_left
                        · simp only [lookP, allP, Act.put, List.getElem?_cons_zero, List.getElem?_cons_succ, List.setIfInBounds_toArray, List.set_cons_zero, List.set_cons_succ]
                          (try dsimp only at hS')
                          go_simp
                          (try with_reducible rfl)
                        refine chainP_nil (fun ua hS' => ?_)
                        simp only [allP, Act.put, List.setIfInBounds_toArray, List.set_cons_zero, List.set_cons_succ]
                        have hq1 := hS'.1
                        clear hS'
                        replace hc := Below.next hc hq1
                        replace c0 := box_at c0 hq1
                        replace c1 := box_at c1 hq1
                        replace c2 := box_at c2 hq1
                        replace y1 := box_at y1 hq1
                        clear hq1
                        have HR5 := Lib.hid (HR.out.below hc)
                        have HB5 := Lib.hid (Below.next HB.out hc)
                        have hsb : sb < u5.heap.size := World.block_lt_of_cell? _ _ y1W
                        have HYW := Lib.hid y1W
                        have HSZ : Hid (u5.heap.size ≤ ua.heap.size) := HB5.out.size
                        clear hc c0 c1 c2 y1 y1W
                        try (go_wp2_with fail)
                        try (refine NoPanic.normal ?_)
                        go_wp2_with (first | (at_builtin; refine RowsI.list_appN rfl _ _ rfl (HR5.out.below ((Below.refl _ _).alloc (Nat.le_refl _) _)) (by have := HSZ.out; simp; omega) 0 rfl (Ints.lit1 _ HXI.out) (by simp) (xn + 1) (by have := HXN.out; simp only [List.length_cons, List.length_nil]; omega) (by omega) rfl rfl ?_; intro a3 c3 w3 h3 _ hb3; have HR6 := Lib.hid h3; have HB6 : Hid (Below u5.heap.size u5 w3) := (HB5.out.trans ((Below.refl _ _).alloc HSZ.out _)).trans hb3; have y1 := Below.cell' HB6.out hsb HYW.out; have HSY : Hid (u5.heap.size ≤ w3.heap.size) := HB6.out.size; clear h3 hb3) | (at_builtin; refine RowsI.list_appN rfl _ _ rfl (HR6.out.below ((Below.refl _ _).alloc (Nat.le_refl _) _)) (by have := HSY.out; simp; omega) 1 rfl (Ints.lit1 _ HYI.out) (by simp) (xn + 1) (by have := HYN.out; simp only [List.length_cons, List.length_nil]; omega) (by omega) rfl rfl ?_; intro a4 c4 w4 h4 _ hb4; have HR9 := Lib.hid h4; have HB9 : Hid (Below u5.heap.size u5 w4) := (HB6.out.trans ((Below.refl _ _).alloc HSY.out _)).trans hb4; clear h4 hb4) | fail)
                        clear y1
                        try (go_wp2_with fail)
                        go_roundg (ivn - (k + 1))
                        case measure => exact hgk
                        case rel => exact ⟨k + 1, _, _, lx ++ [x], ly ++ [y], by omega, by go_num, Lib.hid ⟨HNX.out, rfl, rfl⟩, HR9, HB9⟩
                      | false =>
                        have HNX : Hid (pk gr cs ix ss (k + 1) = (lx, ly)) := HP2.out HQ.out
                        try (go_wp2_with fail)
                        refine wp_region_noPanic ?_
                        refine wp_region_P (fun w' => w'.cell? ⟨w.heap.size, 0, none⟩ = some (.int .i64 gr.p) ∧ w'.cell? ⟨w.heap.size, 1, none⟩ = some (.int .i64 gr.q) ∧ w'.cell? ⟨w.heap.size, 2, none⟩ = some (.int .i64 gr.g) ∧ w'.cell? ⟨sb, so + k, none⟩ = some (.int .i64 y)) 17 [(0, []), (1, [0]), (2, []), (3, [0]), (4, [2, 0]), (5, [0]), (6, [0]), (7, [1]), (8, [2]), (9, [3]), (10, [4]), (11, [1, 0, 5]), (12, [0, 6]), (13, [6, 5, 4, 0, 7]), (14, [8, 0])] [] (by kernel_rfl) (by kernel_rfl) (by kernel_rfl) rfl (fun _ _ _ _ h => h) (fun w' h => ⟨box_at c0 h, box_at c1 h, box_at c2 h, box_at y1 h⟩) ?_
                        simp only [pickP, pickN, List.getElem?_cons_zero, List.getElem?_cons_succ]
                        iterate 6 (refine' chainP_read _ rfl rfl (fun w' hS' => ?_) ?_; rotate_left; · (simp only [lookP, allP, Act.put, List.getElem?_cons_zero, List.getElem?_cons_succ, List.setIfInBounds_toArray, List.set_cons_zero, List.set_cons_succ]; (try dsimp only at hS'); go_simp; (try with_reducible rfl)))
                        -- 6: load 24 t4
                        refine' chainP_readG (d := (some 64)) _ rfl (fun w' hS' => ?_) ?_; rotate_left
                        · simp only [lookP, allP, Act.put, List.getElem?_cons_zero, List.getElem?_cons_succ, List.setIfInBounds_toArray, List.set_cons_zero, List.set_cons_succ]
                          refine ⟨by kernel_rfl, ?_⟩
                          (try dsimp only at hS')
                          go_simp
                          (try with_reducible rfl)
                        -- 7: move t1
                        refine' chainP_readG (d := (some 65)) _ rfl (fun w' hS' => ?_) ?_; rotate_left
                        · simp only [lookP, allP, Act.put, List.getElem?_cons_zero, List.getElem?_cons_succ, List.setIfInBounds_toArray, List.set_cons_zero, List.set_cons_succ]
                          refine ⟨by kernel_rfl, ?_⟩
                          (try dsimp only at hS')
                          go_simp
                          (try with_reducible rfl)
                        -- 8: move t13
                        refine' chainP_readG (d := (some 66)) _ rfl (fun w' hS' => ?_) ?_; rotate_left
                        · simp only [lookP, allP, Act.put, List.getElem?_cons_zero, List.getElem?_cons_succ, List.setIfInBounds_toArray, List.set_cons_zero, List.set_cons_succ]
                          refine ⟨by kernel_rfl, ?_⟩
                          (try dsimp only at hS')
                          go_simp
                          (try with_reducible rfl)
                        -- 9: move t3
                        refine' chainP_readG (d := (some 67)) _ rfl (fun w' hS' => ?_) ?_; rotate_left
                        · simp only [lookP, allP, Act.put, List.getElem?_cons_zero, List.getElem?_cons_succ, List.setIfInBounds_toArray, List.set_cons_zero, List.set_cons_succ]
                          refine ⟨by kernel_rfl, ?_⟩
                          (try dsimp only at hS')
                          go_simp
                          (try with_reducible rfl)
                        -- 10: move t12
                        refine' chainP_readG (d := (some 68)) _ rfl (fun w' hS' => ?_) ?_; rotate_left
                        · simp only [lookP, allP, Act.put, List.getElem?_cons_zero, List.getElem?_cons_succ, List.setIfInBounds_toArray, List.set_cons_zero, List.set_cons_succ]
                          refine ⟨by kernel_rfl, ?_⟩
                          (try dsimp only at hS')
                          go_simp
                          (try with_reducible rfl)
                        -- 11: indexAddr 43 t67 t68
                        refine' chainP_readG (d := (some 69)) _ rfl (fun w' hS' => ?_) ?_; rotate_left
                        · simp only [lookP, allP, Act.put, List.getElem?_cons_zero, List.getElem?_cons_succ, List.setIfInBounds_toArray, List.set_cons_zero, List.set_cons_succ]
                          refine ⟨by kernel_rfl, ?_⟩
                          (try dsimp only at hS')
                          go_simp
                          (try with_reducible rfl)
                        -- 12: load 3 t69
                        refine' chainP_readG (d := (some 70)) _ rfl (fun w' hS' => ?_) ?_; rotate_left
                        · simp only [lookP, allP, Act.put, List.getElem?_cons_zero, List.getElem?_cons_succ, List.setIfInBounds_toArray, List.set_cons_zero, List.set_cons_succ]
                          refine ⟨by kernel_rfl, ?_⟩
                          (try dsimp only at hS')
                          go_simp
                          (try with_reducible rfl)
                        -- 13: call { callee := value (func 130), args := #[t64, t65, t66, t70], argTypes := #[24, 43, 3, 3] }
                        refine chainP_callG (d := (some 71)) (.bool false) rfl (fun w' hS' => ?_) ?_
                        · simp only [lookP, allP, Act.put, List.getElem?_cons_zero, List.getElem?_cons_succ, List.setIfInBounds_toArray, List.set_cons_zero, List.set_cons_succ]
                          refine ⟨by kernel_rfl, ?_⟩
                          intro K hK
                          go_simp
                          go_at_call 114
                          refine (spec_sFits gr _ cs x y _ HG.out (Hcvr.out.below hS'.1) HEL.out HCN.out HXB.out HYI.out).mono ?_
                          rintro e u ⟨rfl, hq⟩
                          rw [HQ.out]
                          exact hK.out _ hq
                        -- 14: pick t63 t71 (const (bool false))
                        refine' chainP_read (d := (some 72)) _ rfl rfl (fun w' hS' => ?_) ?_; rotate_left
                        · simp only [lookP, allP, Act.put, List.getElem?_cons_zero, List.getElem?_cons_succ, List.setIfInBounds_toArray, List.set_cons_zero, List.set_cons_succ]
                          (try dsimp only at hS')
                          go_simp
                          (try with_reducible rfl)
                        refine chainP_nil (fun ua hS' => ?_)
                        simp only [allP, Act.put, List.setIfInBounds_toArray, List.set_cons_zero, List.set_cons_succ]
                        have hq1 := hS'.1
                        clear hS'
                        replace hc := Below.next hc hq1
                        replace c0 := box_at c0 hq1
                        replace c1 := box_at c1 hq1
                        replace c2 := box_at c2 hq1
                        replace y1 := box_at y1 hq1
                        clear hq1
                        clear c0 c1 c2 y1
                        have HR2 := Lib.hid (HR.out.below hc)
                        have HB2 := Lib.hid (Below.next HB.out hc)
                        clear hc
                        try (go_wp2_with fail)
                        try (refine NoPanic.normal ?_)
                        go_wp2_with fail
                        go_roundg (ivn - (k + 1))
                        case measure => exact hgk
                        case rel => exact ⟨k + 1, _, _, lx, ly, by omega, by go_num, Lib.hid ⟨HNX.out, rfl, rfl⟩, HR2, HB2⟩
                    · have q1 : decide ((xn : Int) < (cvn : Int)) = false := decide_eq_false (by omega)
                      have q1n : decide (xn < cvn) = false := decide_eq_false hcc
                      have HNX : Hid (pk gr cs ix ss (k + 1) = (lx, ly)) := HP1.out (by have := HXN.out; have := Ecv.out; omega)
                      clear hcc
                      try (go_wp2_with fail)
                      refine wp_region_noPanic ?_
                      refine wp_region_P (fun w' => w'.cell? ⟨w.heap.size, 0, none⟩ = some (.int .i64 gr.p) ∧ w'.cell? ⟨w.heap.size, 1, none⟩ = some (.int .i64 gr.q) ∧ w'.cell? ⟨w.heap.size, 2, none⟩ = some (.int .i64 gr.g) ∧ w'.cell? ⟨sb, so + k, none⟩ = some (.int .i64 y)) 17 [(0, []), (1, [0]), (2, []), (3, [0]), (4, [2, 0]), (5, [0]), (6, [0]), (7, [1]), (8, [2]), (9, [3]), (10, [4]), (11, [1, 0, 5]), (12, [0, 6]), (13, [6, 5, 4, 0, 7]), (14, [8, 0])] [] (by kernel_rfl) (by kernel_rfl) (by kernel_rfl) rfl (fun _ _ _ _ h => h) (fun w' h => ⟨box_at c0 h, box_at c1 h, box_at c2 h, box_at y1 h⟩) ?_
                      simp only [pickP, pickN, List.getElem?_cons_zero, List.getElem?_cons_succ]
                      iterate 6 (refine' chainP_read _ rfl rfl (fun w' hS' => ?_) ?_; rotate_left; · (simp only [lookP, allP, Act.put, List.getElem?_cons_zero, List.getElem?_cons_succ, List.setIfInBounds_toArray, List.set_cons_zero, List.set_cons_succ]; (try dsimp only at hS'); go_simp; (try with_reducible rfl)))
                      -- 6: load 24 t4
                      refine chainP_skip (d := (some 64)) rfl (fun w' hS' => ?_) ?_
                      · simp only [lookP, allP, Act.put, List.getElem?_cons_zero, List.getElem?_cons_succ, List.setIfInBounds_toArray, List.set_cons_zero, List.set_cons_succ]
                        kernel_rfl
                      -- 7: move t1
                      refine chainP_skip (d := (some 65)) rfl (fun w' hS' => ?_) ?_
                      · simp only [lookP, allP, Act.put, List.getElem?_cons_zero, List.getElem?_cons_succ, List.setIfInBounds_toArray, List.set_cons_zero, List.set_cons_succ]
                        kernel_rfl
                      -- 8: move t13
                      refine chainP_skip (d := (some 66)) rfl (fun w' hS' => ?_) ?_
                      · simp only [lookP, allP, Act.put, List.getElem?_cons_zero, List.getElem?_cons_succ, List.setIfInBounds_toArray, List.set_cons_zero, List.set_cons_succ]
                        kernel_rfl
                      -- 9: move t3
                      refine chainP_skip (d := (some 67)) rfl (fun w' hS' => ?_) ?_
                      · simp only [lookP, allP, Act.put, List.getElem?_cons_zero, List.getElem?_cons_succ, List.setIfInBounds_toArray, List.set_cons_zero, List.set_cons_succ]
                        kernel_rfl
                      -- 10: move t12
                      refine chainP_skip (d := (some 68)) rfl (fun w' hS' => ?_) ?_
                      · simp only [lookP, allP, Act.put, List.getElem?_cons_zero, List.getElem?_cons_succ, List.setIfInBounds_toArray, List.set_cons_zero, List.set_cons_succ]
                        kernel_rfl
                      -- 11: indexAddr 43 t67 t68
                      refine chainP_skip (d := (some 69)) rfl (fun w' hS' => ?_) ?_
                      · simp only [lookP, allP, Act.put, List.getElem?_cons_zero, List.getElem?_cons_succ, List.setIfInBounds_toArray, List.set_cons_zero, List.set_cons_succ]
                        kernel_rfl
                      -- 12: load 3 t69
                      refine chainP_skip (d := (some 70)) rfl (fun w' hS' => ?_) ?_
                      · simp only [lookP, allP, Act.put, List.getElem?_cons_zero, List.getElem?_cons_succ, List.setIfInBounds_toArray, List.set_cons_zero, List.set_cons_succ]
                        kernel_rfl
                      -- 13: call { callee := value (func 130), args := #[t64, t65, t66, t70], argTypes := #[24, 43, 3, 3] }
                      refine chainP_skip (d := (some 71)) rfl (fun w' hS' => ?_) ?_
                      · simp only [lookP, allP, Act.put, List.getElem?_cons_zero, List.getElem?_cons_succ, List.setIfInBounds_toArray, List.set_cons_zero, List.set_cons_succ]
                        kernel_rfl
                      -- 14: pick t63 t71 (const (bool false))
                      refine' chainP_read (d := (some 72)) _ rfl rfl (fun w' hS' => ?_) ?_; rotate_left
                      · simp only [lookP, allP, Act.put, List.getElem?_cons_zero, List.getElem?_cons_succ, List.setIfInBounds_toArray, List.set_cons_zero, List.set_cons_succ]
                        (try dsimp only at hS')
                        go_simp
                        (try with_reducible rfl)
                      refine chainP_nil (fun ua hS' => ?_)
                      simp only [allP, Act.put, List.setIfInBounds_toArray, List.set_cons_zero, List.set_cons_succ]
                      have hq1 := hS'.1
                      clear hS'
                      replace hc := Below.next hc hq1
                      replace c0 := box_at c0 hq1
                      replace c1 := box_at c1 hq1
                      replace c2 := box_at c2 hq1
                      replace y1 := box_at y1 hq1
                      clear hq1
                      clear c0 c1 c2 y1
                      have HR2 := Lib.hid (HR.out.below hc)
                      have HB2 := Lib.hid (Below.next HB.out hc)
                      clear hc
                      try (go_wp2_with fail)
                      try (refine NoPanic.normal ?_)
                      go_wp2_with fail
                      go_roundg (ivn - (k + 1))
                      case measure => exact hgk
                      case rel => exact ⟨k + 1, _, _, lx, ly, by omega, by go_num, Lib.hid ⟨HNX.out, rfl, rfl⟩, HR2, HB2⟩
                  · obtain rfl : ivn = k := by omega
                    have HPX : Hid (pkX gr cs ix ss = lx) := by unfold Hid pkX; rw [Eiv.out, HPE.out]
                    have HPYL : Hid (pkY gr cs ix ss = ly) := by unfold Hid pkY; rw [Eiv.out, HPE.out]
                    rw [HPX.out, HPYL.out] at HPF
                    have HIX : Hid (Ints wr (.slice xa xn xc) lx) := HOX.out.ints
                    have HIY : Hid (Ints wr (.slice ya xn yc) ly) := HOY.out.ints
                    have HBZ := Lib.hid (HBW.out.trans (HB.out.mono HBW.out.size))
                    by_cases hcc : xn < cvn
                    · have q1 : decide ((xn : Int) < (cvn : Int)) = true := decide_eq_true (by omega)
                      have q1n : decide (xn < cvn) = true := decide_eq_true hcc
                      have HVF : Hid (vaB gr cs ix ss = false) := by unfold Hid vaB; rw [HPX.out, HXN.out, decide_eq_true (by have := Ecv.out; omega)]; rfl
                      clear hcc
                      go_wp2_with fail
                      go_ret2
                      exact ⟨by unfold rcR rcB; rw [HVF.out, Bool.and_false]; rfl, HBZ.out⟩
                    · have q1 : decide ((xn : Int) < (cvn : Int)) = false := decide_eq_false (by omega)
                      have q1n : decide (xn < cvn) = false := decide_eq_false hcc
                      have HVT : Hid (vaB gr cs ix ss = true) := by unfold Hid vaB; rw [HPX.out, HXN.out, decide_eq_false (by have := Ecv.out; omega)]; rfl
                      have HVV : Hid (vaV gr cs ix ss 0 = dotM gr.q (lagL gr.q lx 0) ly (lagL gr.q lx 0).length) := by unfold Hid vaV; rw [HPX.out, HPYL.out]
                      have HX0 : Hid ((0 : Int) ≤ 0 ∧ (0 : Int) ≤ 1000) := ⟨by decide, by decide⟩
                      clear hcc
                      have c0 := box_at C0.out HB.out
                      have c1 := box_at C1.out HB.out
                      have c2 := box_at C2.out HB.out
                      go_upto_region 13 with fail
                      refine wp_region_noPanic ?_
                      refine wp_region_V (fun w' => w'.cell? ⟨w.heap.size, 0, none⟩ = some (.int .i64 gr.p) ∧ w'.cell? ⟨w.heap.size, 1, none⟩ = some (.int .i64 gr.q) ∧ w'.cell? ⟨w.heap.size, 2, none⟩ = some (.int .i64 gr.g)) 12 8 (.rd 0 (.rd 1 (.rd 2 (.rd 4 (.rd 5 (.rd 6 (.alt 3 (.alt 7 .done .nil) .nil))))))) [8, 9] (by kernel_rfl) (by kernel_rfl) rfl (fun _ _ _ _ _ h => h) ⟨box_at c0 (Below.refl _ _).drew, box_at c1 (Below.refl _ _).drew, box_at c2 (Below.refl _ _).drew⟩ ?_
                      simp only [pickV, pickN, List.getElem?_cons_zero, List.getElem?_cons_succ]
                      repeat (refine' wpV_read _ (by kernel_rfl) (fun w' hS' => ?_) ?_; rotate_left; (focus ((try dsimp only at hS'); go_simp; (try with_reducible rfl))); (try simp only [Act.put, List.setIfInBounds_toArray, List.set_cons_zero, List.set_cons_succ]))
                      have hb1 : Below wr.heap.size wr wr.drew := (Below.refl _ _).drew
                      refine wpV_do (by kernel_rfl) (fun K hK => ?_)
                      go_simp
                      go_at_call 116
                      refine (spec_yLagrange gr.q _ lx 0 _ HPR.out hq2 (HIX.out.below hb1) (by have := HPF.out.l7; omega) (fun y hy => by have := HPF.out.bx y hy; omega) HPF.out.df HX0.out).mono ?_
                      rintro e u1 ⟨⟨v1, rfl, ho1⟩, hb2⟩
                      obtain ⟨l1, hl1⟩ : ∃ z, lagL gr.q lx 0 = z := ⟨_, rfl⟩
                      have HL1 : Hid (∀ y ∈ l1, 0 ≤ y ∧ y < gr.q) := by rw [← hl1]; exact lagL_bd hq0 _ _
                      have HL2 : Hid (l1.length = lx.length) := by rw [← hl1]; exact lagL_len _ _ _
                      rw [hl1] at ho1 HVV
                      have HO1 := Lib.hid ho1.ints
                      have HB3 : Hid (Below wr.heap.size wr u1) := Below.next hb1 hb2
                      clear hb1 hb2 ho1 hl1
                      refine hK.out _ _ ⟨box_at c0 HB3.out, box_at c1 HB3.out, box_at c2 HB3.out⟩ (fun _ => ?_)
                      clear hK K
                      (try simp only [Act.put, List.setIfInBounds_toArray, List.set_cons_zero, List.set_cons_succ])
                      refine wpV_do (by kernel_rfl) (fun K hK => ?_)
                      go_simp
                      go_at_call 115
                      refine (spec_nDot gr.q _ _ l1 ly _ ⟨by omega, hq2⟩ HO1.out (HIY.out.below HB3.out) HL1.out HPF.out.by_ (by have := HL2.out; have := HPF.out.len; omega)).mono ?_
                      rintro e u2 ⟨rfl, hb4⟩
                      have HB5 : Hid (Below wr.heap.size wr u2) := Below.next HB3.out hb4
                      clear hb4
                      refine hK.out _ _ ⟨box_at c0 HB5.out, box_at c1 HB5.out, box_at c2 HB5.out⟩ (fun _ => ?_)
                      clear hK K c0 c1 c2
                      (try simp only [Act.put, List.setIfInBounds_toArray, List.set_cons_zero, List.set_cons_succ])
                      refine wpV_done ?_
                      go_wp2_with fail
                      refine NoPanic.normal ?_
                      go_wp2_with fail
                      go_ret2
                      exact ⟨by unfold rcR rcB; rw [HAS.out, HVT.out, if_pos (by rfl), HVV.out]; rfl, HBZ.out.trans (HB5.out.mono HBZ.out.size)⟩
            | true =>
              have HLT : Hid (decide (ss.length = ix.length) = false) := by have q := hc6; rw [bne_iff_ne] at q; have := Eiv.out; have := Esv.out; unfold Hid; exact decide_eq_false (by omega)
              go_wp2_with fail
              have HV : Hid ((.tuple #[.int .i64 (rcR gr cs ix ss), .bool (rcB gr cs ix ss)] : Value) = .tuple #[.int .i64 0, .bool false]) := by unfold Hid; simp [rcR, rcB, asB, trL, Hhc1.out, Hhc2.out, Hhc5.out, HL7.out, HT4.out, HLT.out]
              go_ret2
              exact ⟨congrArg Ending.returned HV.out.symm, HB.out.trans (hc.mono HB.out.size)⟩
      | true =>
        have HL7 : Hid (trL ix = false) := by have q := of_decide_eq_true hc3; have := Eiv.out; unfold Hid; cases e : trL ix with
          | false => rfl
          | true => exact absurd (tr_len e) (by omega)
        go_wp2_with fail
        have HV : Hid ((.tuple #[.int .i64 (rcR gr cs ix ss), .bool (rcB gr cs ix ss)] : Value) = .tuple #[.int .i64 0, .bool false]) := by unfold Hid; simp [rcR, rcB, asB, Hhc1.out, Hhc2.out, HL7.out]
        go_ret2
        exact ⟨congrArg Ending.returned HV.out.symm, HB.out.trans (hc.mono HB.out.size)⟩
end Go.Proofs.Ytacpnphfopmofaa
namespace Go.Proofs.Ytacpnphfopmofaa
open Go.RowKit
set_option linter.unusedSimpArgs false
set_option linter.unusedVariables false

set_option maxRecDepth 100000 in
set_option maxHeartbeats 8000000 in
theorem impl_AreConsistent (gr : GroupD) (t : Nat) (sv : Value) (ss : List Int) (w : World) (hss : Ints w sv ss) (hG : shG gr = true) (ht : 1 ≤ t) (htl : t ≤ ss.length) (hl : ss.length ≤ 7) (hel : ss.all (expB gr) = true)
    (hc : ∀ i, i < ss.length → dotM gr.q (lagL gr.q (upL t) ((i : Int) + 1)) (ss.take t) t = nth ss i) :
    Calls Try.prog 32 #[.agg #[.int .i64 gr.p, .int .i64 gr.q, .int .i64 gr.g], .int .i64 (t : Int), sv] w fun e w' => e = .returned (.tuple #[.bool true, .bool true]) ∧ Below w.heap.size w w' := by
  obtain ⟨hpr, hq2, hq7⟩ := shG_prm hG
  have hq0 : 0 < gr.q := by omega
  have HG := Lib.hid hG
  have HOK := Lib.hid (shG_ok hG)
  have HPR := Lib.hid hpr
  have HEL := Lib.hid hel
  have HCO := Lib.hid hc
  have HEX : Hid (∀ y ∈ ss.take t, 0 ≤ y ∧ y < gr.q) := fun y hy => by
    have := expB_bd (List.all_eq_true.1 hel y (List.mem_of_mem_take hy)); omega
  obtain ⟨sa, n, c, rfl⟩ := hss.shape
  have HE := Lib.hid hss.len
  have H := Lib.hid hss
  have hn7 : n ≤ 7 := by have := HE.out; omega
  have htn : t ≤ n := by have := HE.out; omega
  clear hss hG hel hc htl hl hpr
  obtain ⟨W, hW⟩ : ∃ W, W = w.alloc (.cells #[.int .i64 gr.p, .int .i64 gr.q, .int .i64 gr.g] 24) := ⟨_, rfl⟩
  have HBW : Hid (Below w.heap.size w W) := by unfold Hid; rw [hW]; (repeat (first | exact Below.refl _ _ | assumption | refine Below.drew ?_ | refine Below.alloc ?_ (by first | (simp; done) | (simp; omega)) _ | refine Below.setCell ?_ (by first | (simp; done) | (simp; omega)) _))
  have HGX : Hid (BoxN W w.heap.size 24 [.int .i64 gr.p, .int .i64 gr.q, .int .i64 gr.g]) := by unfold Hid; rw [hW]; exact BoxN.new w _ _
  have g0 := HGX.out.cell (i := 0) rfl
  have g1 := HGX.out.cell (i := 1) rfl
  have g2 := HGX.out.cell (i := 2) rfl
  have hmn1 : ¬ (n : Int) < (t : Int) := by omega
  have hmn2 : ¬ n < t := by omega
  have hmn3 : (t : Int) ≤ (n : Int) := by omega
  have hmn4 : min (t : Int) (n : Int) = (t : Int) := by omega
  go_enter Try.func32, Try.ntmps32
  go_wp2_with fail
  rw [← hW]
  clear hW
  try (go_wp2_with fail)
  refine (impl_isSharing gr _).mono ?_
  rintro e u1 ⟨rfl, hb⟩
  rw [HG.out]
  have HB1 : Hid (Below W.heap.size W u1) := hb
  clear hb g0 g1 g2
  go_wp2_with fail
  refine (impl_isTrustee (t : Int) _).mono ?_
  rintro e u2 ⟨rfl, hb⟩
  rw [decide_eq_true (show 1 ≤ (t : Int) ∧ (t : Int) ≤ 7 by omega)]
  have HB2 : Hid (Below W.heap.size W u2) := Below.next HB1.out hb
  clear hb
  go_wp2_with fail
  refine (impl_within (n : Int) 1 7 _).mono ?_
  rintro e u3 ⟨rfl, rfl⟩
  rw [decide_eq_true (show 1 ≤ (n : Int) ∧ (n : Int) ≤ 7 by omega)]
  have g0 := (HGX.out.below HB2.out).cell (i := 0) rfl
  have g1 := (HGX.out.below HB2.out).cell (i := 1) rfl
  have g2 := (HGX.out.below HB2.out).cell (i := 2) rfl
  go_wp2_with fail
  refine (impl_areExps gr _ ss _ HOK.out (H.out.below (HBW.out.trans (HB2.out.mono HBW.out.size)))).mono ?_
  rintro e u4 ⟨rfl, hb⟩
  rw [HEL.out]
  have HB4 : Hid (Below W.heap.size W u4) := Below.next HB2.out hb
  clear hb g0 g1 g2
  obtain ⟨V, hV⟩ : ∃ V, V = u4.alloc (.cells #[] 3) := ⟨_, rfl⟩
  have HO0 : Hid (OwnI V u4.heap.size (.slice (some ⟨u4.heap.size, 0, none⟩) 0 0) []) := by unfold Hid; rw [hV]; exact OwnI.lit u4 (Nat.le_refl _) AllI64.nil rfl (by simp) 0 rfl
  have HBV : Hid (Below W.heap.size W V) := by unfold Hid; rw [hV]; exact HB4.out.trans ((Below.refl _ _).alloc HB4.out.size _)
  have HSZ4 : Hid (u4.heap.size ≤ V.heap.size) := by unfold Hid; rw [hV]; simp
  go_wp2_with fail
  rw [← hV]
  clear hV
  (try (go_wp2_with fail))
  go_loopg [9, 39] t (fun gk xv iv wr => ∃ k : Nat, k + gk = t ∧ iv = .int .i64 (k : Int) ∧ Hid (OwnI wr u4.heap.size xv (upL k)) ∧ Hid (Below W.heap.size W wr) ∧ Hid (u4.heap.size ≤ wr.heap.size))
  case atStart => exact ⟨0, by omega, rfl, HO0, HBV, HSZ4⟩
  case round =>
    clear HO0 HBV HSZ4
    obtain ⟨k, hkg, rfl, HO, HB, HSZ⟩ := hrel
    obtain ⟨oa, oc, rfl⟩ := HO.out.shape
    have HOL := Lib.hid (upL_len k)
    rw [HOL.out] at HO ⊢
    by_cases hlt : k < t
    · have hgk : t - (k + 1) < gk := by omega
      have b0 : (0 : Int) ≤ (k : Int) := by omega
      have bk1 : (k : Int) < (t : Int) := by omega
      have hwk : IntKind.i64.wrap ((k : Int) + 1) = (k : Int) + 1 := IntWalk.i64_in _ (by omega)
      have HZI : Hid (I64 ((k : Int) + 1)) := ⟨by omega, by omega⟩
      go_wp2_with (at_builtin; refine wpList_append_intsN rfl _ _ rfl u4.heap.size _ _ (upL k) [(k : Int) + 1] rfl (HO.out.alloc _) rfl (Ints.lit1 _ HZI.out) (by rw [HOL.out]; simp; omega) (by have := HSZ.out; simp; omega) (k + 1) (by rw [HOL.out]; rfl) ?_; intro a5 c5 w5 hown5 hgr5; have hb5 : Below u4.heap.size wr w5 := ((Below.refl u4.heap.size wr).alloc HSZ.out _).trans ((HO.out.alloc _).grown hgr5 (by have := HSZ.out; simp; omega)); have HO5 := Lib.hid hown5; have HB5 : Hid (Below W.heap.size W w5) := HB.out.trans (hb5.mono HB4.out.size); have HSZ5 : Hid (u4.heap.size ≤ w5.heap.size) := Nat.le_trans HSZ.out hb5.size; clear hown5 hgr5 hb5)
      go_roundg (t - (k + 1))
      case measure => exact hgk
      case rel => exact ⟨k + 1, by omega, by go_num, HO5, HB5, HSZ5⟩
    · obtain rfl : t = k := by omega
      have HBX := HB
      obtain ⟨wA, rfl⟩ : ∃ u, u = wr := ⟨_, rfl⟩
      have HIX : Hid (Ints wA (.slice oa t oc) (upL t)) := HO.out.ints
      have HBW1 : Hid (Below w.heap.size w wA) := HBW.out.trans (HBX.out.mono HBW.out.size)
      have g1 := (HGX.out.below HBX.out).cell (i := 1) rfl
      have HG1 := Lib.hid g1
      clear HO HB HSZ hlt hkg g1 HBX
      go_wp2_with fail
      go_loopg [50] n (fun gk iv wr => ∃ k : Nat, k + gk = n ∧ iv = .int .i64 (k : Int) ∧ Hid (Below wA.heap.size wA wr))
      case atStart => exact ⟨0, by omega, rfl, Below.refl _ _⟩
      case round =>
        obtain ⟨k, hkg, rfl, HB⟩ := hrel
        have HSS : Hid (Ints wr (.slice sa n c) ss) := (H.out.below HBW1.out).below HB.out
        by_cases hlt : k < n
        · have hgk : n - (k + 1) < gk := by omega
          obtain ⟨b, o, rfl, hcx⟩ := HSS.out.at_ (by omega)
          have x1 := hcx k hlt
          clear hcx
          have HCK : Hid (dotM gr.q (lagL gr.q (upL t) ((k : Int) + 1)) (ss.take t) t = nth ss k) := HCO.out k (by rw [HE.out]; exact hlt)
          obtain ⟨y, hy⟩ : ∃ z, nth ss k = z := ⟨_, rfl⟩
          rw [hy] at x1 HCK
          clear hy
          have b0 : (0 : Int) ≤ (k : Int) := by omega
          have bk1 : (k : Int) < (n : Int) := by omega
          have hwk : IntKind.i64.wrap ((k : Int) + 1) = (k : Int) + 1 := IntWalk.i64_in _ (by omega)
          obtain ⟨hsl, hst⟩ := sl_take HSS.out (x := (t : Int)) (k := t) rfl (by omega)
          have HST := Lib.hid hst
          clear hst
          have g1 := box_at HG1.out HB.out
          have HX1 : Hid (0 ≤ (k : Int) + 1 ∧ (k : Int) + 1 ≤ 1000) := ⟨by omega, by omega⟩
          have HQ2 : Hid (2 ≤ gr.q ∧ gr.q ≤ 2000000000) := ⟨by omega, hq2⟩
          have HDF : Hid (Diff gr.q (upL t)) := diff_tr hq7 (fun y hy => by have := upL_mem hy; omega) (upL_nodup t)
          go_upto_region 13 with fail
          refine wp_region_noPanic ?_
          refine wp_region_V (fun w' => w'.cell? ⟨w.heap.size, 1, none⟩ = some (.int .i64 gr.q)) 16 13 (.rd 0 (.rd 1 (.rd 2 (.rd 3 (.rd 4 (.rd 6 (.rd 7 (.rd 8 (.rd 9 (.rd 10 (.rd 12 (.alt 5 (.alt 11 .done .nil) .nil)))))))))))) [13] (by kernel_rfl) (by kernel_rfl) rfl (fun _ _ _ _ _ h => h) (box_at g1 (Below.refl _ _).drew) ?_
          simp only [pickV, pickN, List.getElem?_cons_zero, List.getElem?_cons_succ]
          repeat (refine' wpV_read _ (by kernel_rfl) (fun w' hS' => ?_) ?_; rotate_left; (focus ((try dsimp only at hS'); go_simp; (try with_reducible rfl))); (try simp only [Act.put, List.setIfInBounds_toArray, List.set_cons_zero, List.set_cons_succ]))
          have hb1 : Below wr.heap.size wr wr.drew := (Below.refl _ _).drew
          refine wpV_do (by kernel_rfl) (fun K hK => ?_)
          go_simp
          go_at_call 120
          refine (impl_lagrange gr.q _ (upL t) ((k : Int) + 1) _ HPR.out hq2 ((HIX.out.below HB.out).below hb1) (by rw [upL_len]; omega) (fun y hy => by have := upL_mem hy; omega) HDF.out HX1.out).mono ?_
          rintro e u1 ⟨⟨v1, rfl, ho1⟩, hb2⟩
          have HL2 : Hid ((lagL gr.q (upL t) ((k : Int) + 1)).length = t) := by unfold Hid; rw [lagL_len, upL_len]
          have HL1 : Hid (∀ y ∈ lagL gr.q (upL t) ((k : Int) + 1), 0 ≤ y ∧ y < gr.q) := lagL_bd hq0 _ _
          obtain ⟨l1, hl1⟩ : ∃ z, lagL gr.q (upL t) ((k : Int) + 1) = z := ⟨_, rfl⟩
          rw [hl1] at ho1 HCK HL1 HL2
          have HO1 := Lib.hid ho1.ints
          have HB3 : Hid (Below wr.heap.size wr u1) := Below.next hb1 hb2
          clear hb1 hb2 ho1 hl1
          refine hK.out _ _ (box_at g1 HB3.out) (fun _ => ?_)
          clear hK K
          (try simp only [Act.put, List.setIfInBounds_toArray, List.set_cons_zero, List.set_cons_succ])
          refine wpV_do (by kernel_rfl) (fun K hK => ?_)
          go_simp
          go_at_call 119
          refine (impl_dot gr.q _ _ l1 (ss.take t) _ HQ2.out HO1.out (HST.out.below HB3.out) HL1.out HEX.out (by rw [HL2.out, List.length_take, HE.out]; omega)).mono ?_
          rintro e u2 ⟨rfl, hb4⟩
          rw [HL2.out, HCK.out]
          have HB5 : Hid (Below wA.heap.size wA u2) := Below.next HB.out (Below.next HB3.out hb4)
          refine hK.out _ _ (box_at g1 (Below.next HB3.out hb4)) (fun _ => ?_)
          clear hK K g1 hb4
          (try simp only [Act.put, List.setIfInBounds_toArray, List.set_cons_zero, List.set_cons_succ])
          refine wpV_done ?_
          go_wp2_with fail
          refine NoPanic.normal ?_
          go_wp2_with fail
          go_roundg (n - (k + 1))
          case measure => exact hgk
          case rel => exact ⟨k + 1, by omega, by go_num, HB5⟩
        · obtain rfl : n = k := by omega
          go_wp2_with fail
          go_ret2
          exact ⟨rfl, HBW1.out.trans (HB.out.mono HBW1.out.size)⟩
end Go.Proofs.Ytacpnphfopmofaa
