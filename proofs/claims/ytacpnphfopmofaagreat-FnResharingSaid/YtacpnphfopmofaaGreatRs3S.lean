/- Resharing: the walk of the reference (printed by gen_rs3.py). -/
import Derived.Test.YtacpnphfopmofaaGreatRs2S
import Derived.Test.YtacpnphfopmofaaGreatMfS
import Derived.Test.YtacpnphfopmofaaGreatDrZ3S
import Derived.Deep.Cut
namespace Go.Proofs.YtacpnphfopmofaaGreat
open Go.RowKit
set_option linter.unusedSimpArgs false
set_option linter.unusedVariables false

theorem rs_steps {gr : GroupD} {cm ix : List Int} {l : List DealingD} {k : Nat} {us os : List Int} {Z : DealingD} {X C0 AT : Int} {bn : Nat} (hU : rsU gr cm ix l k = us) (hO : rsO gr cm ix l k = os) (hZ : atD l k = Z) (hX : nth ix k = X) (hC : nth Z.c 0 = C0) (hA : atE gr cm X = AT) (hb : (badE gr Z).length = bn) (q : Bool)
    (hq : (((C0 == AT) && decide (bn = 0)) && (decide (us.length = 0) || smB Z (atD l (nth us 0).toNat))) = q) : rsO gr cm ix l (k + 1) = (if q = true then os else os ++ [(k : Int)]) ∧ usD l (rsU gr cm ix l (k + 1)) = (if q = true then usD l us ++ [Z] else usD l us) ∧ usX ix (rsU gr cm ix l (k + 1)) = (if q = true then usX ix us ++ [X] else usX ix us) := by
  obtain ⟨h1, h2⟩ := rs_step hU hO hZ hX hC hA hb q hq
  refine ⟨h2, ?_, ?_⟩
  · rw [h1]; cases q
    · rfl
    · rw [if_pos rfl, if_pos rfl, usD_app, hZ]
  · rw [h1]; cases q
    · rfl
    · rw [if_pos rfl, if_pos rfl, usX_app, hX]
theorem small_lit1 : Small 1 := ⟨by decide, by decide⟩
theorem rsC_small {gr : GroupD} (hg : OkG gr) (l : List DealingD) (us lam : List Int) (j k : Nat) : Small (rsC gr l us lam j k) := by
  cases k with
  | zero => exact small_lit1
  | succ k => exact mulL_small hg _
theorem rsV_bd {gr : GroupD} (hq : 0 < gr.q) (l : List DealingD) (us lam : List Int) (j k : Nat) : 0 ≤ rsV gr l us lam j k ∧ rsV gr l us lam j k < gr.q := by
  cases k with
  | zero => exact ⟨Int.le_refl _, hq⟩
  | succ k => exact ⟨Int.emod_nonneg _ (by omega), Int.emod_lt_of_pos _ hq⟩
set_option maxRecDepth 100000 in
set_option maxHeartbeats 8000000 in
theorem spec_ReshareKey (gr : GroupD) (cv : Value) (cm : List Int) (iv : Value) (ix : List Int) (lv : Value) (l : List DealingD) (w : World) (hcm : Ints w cv cm) (hix : Ints w iv ix) (hl : RdR rDealing w lv l) :
    Calls Tryz.prog 16 #[.agg #[.int .i64 gr.p, .int .i64 gr.q, .int .i64 gr.g], cv, iv, lv] w fun e w' => RetDLB e w' (rsK gr cm ix l) (rsL gr cm ix l) (rsB gr cm ix l) ∧ Below w.heap.size w w' := by
  obtain ⟨cva, cvn, cvc, rfl⟩ := hcm.shape
  have Ecv := Lib.hid hcm.len
  have Kcv := Lib.hid hcm.capMax
  have Hcv := Lib.hid hcm
  clear hcm
  obtain ⟨iva, ivn, ivc, rfl⟩ := hix.shape
  have Eiv := Lib.hid hix.len
  have Kiv := Lib.hid hix.capMax
  have Hiv := Lib.hid hix
  clear hix
  obtain ⟨lva, lvn, lvc, rfl⟩ := hl.shape
  have Elv := Lib.hid hl.len
  have Klv := Lib.hid hl.capMax
  have Hlv := Lib.hid hl
  clear hl
  obtain ⟨W, hW⟩ : ∃ W, W = (w.alloc (.cells #[.int .i64 gr.p, .int .i64 gr.q, .int .i64 gr.g] 24)).alloc (.cells #[(.slice none 0 0), (.slice none 0 0)] 27) := ⟨_, rfl⟩
  have HB : Hid (Below w.heap.size w W) := by unfold Hid; rw [hW]; (repeat (first | exact Below.refl _ _ | assumption | refine Below.drew ?_ | refine Below.alloc ?_ (by first | (simp; done) | (simp; omega)) _ | refine Below.setCell ?_ (by first | (simp; done) | (simp; omega)) _))
  have c0_0 : W.cell? ⟨w.heap.size, 0, none⟩ = some (.int .i64 gr.p) := by rw [hW]; simp [go_sem]
  have c0_1 : W.cell? ⟨w.heap.size, 1, none⟩ = some (.int .i64 gr.q) := by rw [hW]; simp [go_sem]
  have c0_2 : W.cell? ⟨w.heap.size, 2, none⟩ = some (.int .i64 gr.g) := by rw [hW]; simp [go_sem]
  have HR1 : Hid (BoxN W (w.heap.size + 1) 27 [(.slice none 0 0), (.slice none 0 0)]) := by unfold Hid; rw [hW]; have h := (BoxN.new (w.alloc (.cells #[.int .i64 gr.p, .int .i64 gr.q, .int .i64 gr.g] 24)) [(.slice none 0 0), (.slice none 0 0)] 27); simpa using h
  have HSW : Hid (W.heap.size = w.heap.size + 2) := by unfold Hid; rw [hW]; simp
  have lr1 : w.heap.size + 1 < W.heap.size := by have := HSW.out; omega
  go_enter Tryz.func16, Tryz.ntmps16
  go_wp2_with fail
  rw [← hW]
  have hse : w.heap.size + 1 + 1 = W.heap.size := by have := HSW.out; omega
  (try rw [hse])
  clear hse
  clear hW
  have hc : Below W.heap.size W W := Below.refl _ _
  have HCC : Hid (∀ u, Below W.heap.size W u → u.cell? ⟨w.heap.size, 0, none⟩ = some (.int .i64 gr.p) ∧ u.cell? ⟨w.heap.size, 1, none⟩ = some (.int .i64 gr.q) ∧ u.cell? ⟨w.heap.size, 2, none⟩ = some (.int .i64 gr.g)) := fun u h => ⟨box_at c0_0 h, box_at c0_1 h, box_at c0_2 h⟩
  go_wp2_with fail
  refine (spec_sGroup gr _).mono ?_
  rintro e u1 ⟨rfl, hq1⟩
  replace hc := Below.next hc hq1
  clear hq1 c0_0 c0_1 c0_2
  obtain ⟨c0_0, c0_1, c0_2⟩ := HCC.out _ hc
  cases hc1 : shG gr with
  | false =>
    have Hhc1 := Lib.hid hc1
    clear hc1
    have HRE1 := Lib.hid (HR1.out.below hc)
    clear HR1
    have HBE := Lib.hid (HB.out.trans (hc.mono HB.out.size))
    have r1_0 := HRE1.out.cell (i := 0) rfl
    have r1_1 := HRE1.out.cell (i := 1) rfl
    have fr1 := fun j => HRE1.out.frozen j
    go_wp2_with fail
    have HRF := Lib.hid ((HRE1.out.set 0 ((.slice none 0 0))).set 1 ((.slice none 0 0)))
    have HBF := Lib.hid ((HBE.out.setCell (p := ⟨w.heap.size + 1, 0, none⟩) (by show w.heap.size ≤ w.heap.size + 1; omega) ((.slice none 0 0))).setCell (p := ⟨w.heap.size + 1, 1, none⟩) (by show w.heap.size ≤ w.heap.size + 1; omega) ((.slice none 0 0)))
    clear r1_0 r1_1 fr1
    have r1_0 := HRF.out.cell (i := 0) rfl
    have r1_1 := HRF.out.cell (i := 1) rfl
    try (go_wp2_with fail)
    have HVB : Hid (rsB gr cm ix l = false) := by unfold Hid; simp [rsB, rsQ, Hhc1.out]
    have HPR : Hid (rsK gr cm ix l = ⟨[], []⟩ ∧ rsL gr cm ix l = []) := by unfold Hid rsK rsL; rw [if_neg (by rw [HVB.out]; simp), if_neg (by rw [HVB.out]; simp)]; exact ⟨rfl, rfl⟩
    refine bodyPost_ret (v := .tuple #[.agg #[(.slice none 0 0), (.slice none 0 0)], .slice none 0 0, .bool false]) (by simp [results, Tryz.results16, go_sem, r1_0, r1_1]) rfl ⟨(by rw [HVB.out, HPR.out.1, HPR.out.2]; exact RetDLB.mk (Ints.nil _) (Ints.nil _) (Ints.nil _)), HBF.out⟩
  | true =>
    have HG := Lib.hid (shG_ok hc1)
    have HSG := Lib.hid hc1
    have Hhc1 := Lib.hid hc1
    clear hc1
    go_wp2_with fail
    refine (spec_sCommits gr _ cm _ HG.out (Hcv.out.below (HB.out.trans (hc.mono HB.out.size)))).mono ?_
    rintro e u2 ⟨rfl, hq2⟩
    replace hc := Below.next hc hq2
    clear hq2 c0_0 c0_1 c0_2
    obtain ⟨c0_0, c0_1, c0_2⟩ := HCC.out _ hc
    cases hc2 : cmsB gr cm with
    | false =>
      have Hhc2 := Lib.hid hc2
      clear hc2
      have HRE1 := Lib.hid (HR1.out.below hc)
      clear HR1
      have HBE := Lib.hid (HB.out.trans (hc.mono HB.out.size))
      have r1_0 := HRE1.out.cell (i := 0) rfl
      have r1_1 := HRE1.out.cell (i := 1) rfl
      have fr1 := fun j => HRE1.out.frozen j
      go_wp2_with fail
      have HRF := Lib.hid ((HRE1.out.set 0 ((.slice none 0 0))).set 1 ((.slice none 0 0)))
      have HBF := Lib.hid ((HBE.out.setCell (p := ⟨w.heap.size + 1, 0, none⟩) (by show w.heap.size ≤ w.heap.size + 1; omega) ((.slice none 0 0))).setCell (p := ⟨w.heap.size + 1, 1, none⟩) (by show w.heap.size ≤ w.heap.size + 1; omega) ((.slice none 0 0)))
      clear r1_0 r1_1 fr1
      have r1_0 := HRF.out.cell (i := 0) rfl
      have r1_1 := HRF.out.cell (i := 1) rfl
      try (go_wp2_with fail)
      have HVB : Hid (rsB gr cm ix l = false) := by unfold Hid; simp [rsB, rsQ, Hhc1.out, Hhc2.out]
      have HPR : Hid (rsK gr cm ix l = ⟨[], []⟩ ∧ rsL gr cm ix l = []) := by unfold Hid rsK rsL; rw [if_neg (by rw [HVB.out]; simp), if_neg (by rw [HVB.out]; simp)]; exact ⟨rfl, rfl⟩
      refine bodyPost_ret (v := .tuple #[.agg #[(.slice none 0 0), (.slice none 0 0)], .slice none 0 0, .bool false]) (by simp [results, Tryz.results16, go_sem, r1_0, r1_1]) rfl ⟨(by rw [HVB.out, HPR.out.1, HPR.out.2]; exact RetDLB.mk (Ints.nil _) (Ints.nil _) (Ints.nil _)), HBF.out⟩
    | true =>
      have HCM := Lib.hid hc2
      have Hhc2 := Lib.hid hc2
      clear hc2
      go_wp2_with fail
      refine (spec_rList gr _ l _ HG.out (Hlv.out.below (HB.out.trans (hc.mono HB.out.size)))).mono ?_
      rintro e u3 ⟨rfl, hq3⟩
      replace hc := Below.next hc hq3
      clear hq3 c0_0 c0_1 c0_2
      obtain ⟨c0_0, c0_1, c0_2⟩ := HCC.out _ hc
      cases hc3 : dsB gr l with
      | false =>
        have Hhc3 := Lib.hid hc3
        clear hc3
        have HRE1 := Lib.hid (HR1.out.below hc)
        clear HR1
        have HBE := Lib.hid (HB.out.trans (hc.mono HB.out.size))
        have r1_0 := HRE1.out.cell (i := 0) rfl
        have r1_1 := HRE1.out.cell (i := 1) rfl
        have fr1 := fun j => HRE1.out.frozen j
        go_wp2_with fail
        have HRF := Lib.hid ((HRE1.out.set 0 ((.slice none 0 0))).set 1 ((.slice none 0 0)))
        have HBF := Lib.hid ((HBE.out.setCell (p := ⟨w.heap.size + 1, 0, none⟩) (by show w.heap.size ≤ w.heap.size + 1; omega) ((.slice none 0 0))).setCell (p := ⟨w.heap.size + 1, 1, none⟩) (by show w.heap.size ≤ w.heap.size + 1; omega) ((.slice none 0 0)))
        clear r1_0 r1_1 fr1
        have r1_0 := HRF.out.cell (i := 0) rfl
        have r1_1 := HRF.out.cell (i := 1) rfl
        try (go_wp2_with fail)
        have HVB : Hid (rsB gr cm ix l = false) := by unfold Hid; simp [rsB, rsQ, Hhc1.out, Hhc2.out, Hhc3.out]
        have HPR : Hid (rsK gr cm ix l = ⟨[], []⟩ ∧ rsL gr cm ix l = []) := by unfold Hid rsK rsL; rw [if_neg (by rw [HVB.out]; simp), if_neg (by rw [HVB.out]; simp)]; exact ⟨rfl, rfl⟩
        refine bodyPost_ret (v := .tuple #[.agg #[(.slice none 0 0), (.slice none 0 0)], .slice none 0 0, .bool false]) (by simp [results, Tryz.results16, go_sem, r1_0, r1_1]) rfl ⟨(by rw [HVB.out, HPR.out.1, HPR.out.2]; exact RetDLB.mk (Ints.nil _) (Ints.nil _) (Ints.nil _)), HBF.out⟩
      | true =>
        have HDS := Lib.hid hc3
        have Hhc3 := Lib.hid hc3
        clear hc3
        cases hc4 : ((ivn : Int) != (lvn : Int)) with
        | false =>
          have HLT : Hid (decide (l.length = ix.length) = true) := by have q := hc4; rw [bne_eq_false_iff_eq] at q; have := Eiv.out; have := Elv.out; unfold Hid; exact decide_eq_true (by omega)
          have HLE : Hid (lvn = ivn) := by have q := hc4; rw [bne_eq_false_iff_eq] at q; unfold Hid; omega
          go_wp2_with fail
          refine (spec_l1All _ ix 1 7 _ (Hiv.out.below (HB.out.trans (hc.mono HB.out.size)))).mono ?_
          rintro e u4 ⟨rfl, rfl⟩
          cases hc5 : ix.all (fun x => decide (1 ≤ x ∧ x ≤ 7)) with
          | false =>
            have HT4 : Hid (trL ix = false) := by unfold Hid trL; rw [hc5]; rfl
            have Hhc5 := Lib.hid hc5
            clear hc5
            have HRE1 := Lib.hid (HR1.out.below hc)
            clear HR1
            have HBE := Lib.hid (HB.out.trans (hc.mono HB.out.size))
            have r1_0 := HRE1.out.cell (i := 0) rfl
            have r1_1 := HRE1.out.cell (i := 1) rfl
            have fr1 := fun j => HRE1.out.frozen j
            go_wp2_with fail
            have HRF := Lib.hid ((HRE1.out.set 0 ((.slice none 0 0))).set 1 ((.slice none 0 0)))
            have HBF := Lib.hid ((HBE.out.setCell (p := ⟨w.heap.size + 1, 0, none⟩) (by show w.heap.size ≤ w.heap.size + 1; omega) ((.slice none 0 0))).setCell (p := ⟨w.heap.size + 1, 1, none⟩) (by show w.heap.size ≤ w.heap.size + 1; omega) ((.slice none 0 0)))
            clear r1_0 r1_1 fr1
            have r1_0 := HRF.out.cell (i := 0) rfl
            have r1_1 := HRF.out.cell (i := 1) rfl
            try (go_wp2_with fail)
            have HVB : Hid (rsB gr cm ix l = false) := by unfold Hid; simp [rsB, rsQ, Hhc1.out, Hhc2.out, Hhc3.out, HLT.out, HT4.out]
            have HPR : Hid (rsK gr cm ix l = ⟨[], []⟩ ∧ rsL gr cm ix l = []) := by unfold Hid rsK rsL; rw [if_neg (by rw [HVB.out]; simp), if_neg (by rw [HVB.out]; simp)]; exact ⟨rfl, rfl⟩
            refine bodyPost_ret (v := .tuple #[.agg #[(.slice none 0 0), (.slice none 0 0)], .slice none 0 0, .bool false]) (by simp [results, Tryz.results16, go_sem, r1_0, r1_1]) rfl ⟨(by rw [HVB.out, HPR.out.1, HPR.out.2]; exact RetDLB.mk (Ints.nil _) (Ints.nil _) (Ints.nil _)), HBF.out⟩
          | true =>
            have HA7 := Lib.hid hc5
            have HT4 : Hid True := trivial
            have Hhc5 := Lib.hid hc5
            clear hc5
            go_wp2_with fail
            refine (spec_yPoints _ ix _ (Hiv.out.below (HB.out.trans (hc.mono HB.out.size)))).mono ?_
            rintro e u5 ⟨rfl, rfl⟩
            cases hc6 : ptsB ix with
            | false =>
              have HT5 : Hid (trL ix = false) := by unfold Hid trL; rw [HA7.out, hc6]; rfl
              have Hhc6 := Lib.hid hc6
              clear hc6
              have HRE1 := Lib.hid (HR1.out.below hc)
              clear HR1
              have HBE := Lib.hid (HB.out.trans (hc.mono HB.out.size))
              have r1_0 := HRE1.out.cell (i := 0) rfl
              have r1_1 := HRE1.out.cell (i := 1) rfl
              have fr1 := fun j => HRE1.out.frozen j
              go_wp2_with fail
              have HRF := Lib.hid ((HRE1.out.set 0 ((.slice none 0 0))).set 1 ((.slice none 0 0)))
              have HBF := Lib.hid ((HBE.out.setCell (p := ⟨w.heap.size + 1, 0, none⟩) (by show w.heap.size ≤ w.heap.size + 1; omega) ((.slice none 0 0))).setCell (p := ⟨w.heap.size + 1, 1, none⟩) (by show w.heap.size ≤ w.heap.size + 1; omega) ((.slice none 0 0)))
              clear r1_0 r1_1 fr1
              have r1_0 := HRF.out.cell (i := 0) rfl
              have r1_1 := HRF.out.cell (i := 1) rfl
              try (go_wp2_with fail)
              have HVB : Hid (rsB gr cm ix l = false) := by unfold Hid; simp [rsB, rsQ, Hhc1.out, Hhc2.out, Hhc3.out, HLT.out, HT4.out, HT5.out]
              have HPR : Hid (rsK gr cm ix l = ⟨[], []⟩ ∧ rsL gr cm ix l = []) := by unfold Hid rsK rsL; rw [if_neg (by rw [HVB.out]; simp), if_neg (by rw [HVB.out]; simp)]; exact ⟨rfl, rfl⟩
              refine bodyPost_ret (v := .tuple #[.agg #[(.slice none 0 0), (.slice none 0 0)], .slice none 0 0, .bool false]) (by simp [results, Tryz.results16, go_sem, r1_0, r1_1]) rfl ⟨(by rw [HVB.out, HPR.out.1, HPR.out.2]; exact RetDLB.mk (Ints.nil _) (Ints.nil _) (Ints.nil _)), HBF.out⟩
            | true =>
              have HT5 : Hid True := trivial
              have HTR : Hid (trL ix = true) := by unfold Hid trL; rw [HA7.out, hc6]; rfl
              have HQ : Hid (rsQ gr cm ix l = true) := by unfold Hid rsQ; rw [HSG.out, HCM.out, HTR.out, HLT.out, HDS.out]; rfl
              have HQP := Lib.hid (rsQ_parts HQ.out)
              have HCB := Lib.hid (cmsB_parts HCM.out)
              have HEL := Lib.hid (cms_small HG.out HCB.out.2)
              have HCL : Hid (cm.length ≤ 1000) := by have := HCB.out.1; unfold Hid; omega
              have hl7 : lvn ≤ 7 := by have := HQP.out.2.2.2.2.1; have := Elv.out; omega
              have hc7 : 1 ≤ cvn ∧ cvn ≤ 7 := by have := HCB.out.1; have := Ecv.out; omega
              have HIX := Lib.hid (trL_parts HTR.out).1
              have Hhc6 := Lib.hid hc6
              clear hc6
              have HBS := Lib.hid (HB.out.trans (hc.mono HB.out.size))
              have HWS := Lib.hid hc
              have HRX := Lib.hid (HR1.out.below hc)
              have HR0 : Hid (RowsI u3 u3.heap.size [(.slice none 0 0, []), (.slice none 0 0, [])]) := RowsI.mk2 (OwnI.nil _ _) (OwnI.nil _ _) (fun k h => by cases h)
              have HB0 : Hid (Below u3.heap.size u3 u3) := Below.refl _ _
              have HF0 : Hid (ForDs u3 u3 u3.heap.size (.slice none 0 0) []) := ForDs.nil (Below.refl _ _) (Nat.le_refl _)
              go_wp2_with fail
              clear hc c0_0 c0_1 c0_2
              go_loopg [11, 12, 13, 63] lvn (fun gk dv xv ov iv wr => ∃ (k : Nat) (dv' xv' ov' : Value), k + gk = lvn ∧ iv = .int .i64 (k : Int) ∧ Hid (dv = dv' ∧ xv = xv' ∧ ov = ov') ∧ Hid (ForDs u3 wr u3.heap.size dv' (usD l (rsU gr cm ix l k))) ∧ Hid (RowsI wr u3.heap.size [(xv', usX ix (rsU gr cm ix l k)), (ov', rsO gr cm ix l k)]) ∧ Hid (Below u3.heap.size u3 wr))
              case atStart => exact ⟨0, _, _, _, by omega, rfl, Lib.hid ⟨rfl, rfl, rfl⟩, HF0, HR0, HB0⟩
              case round =>
                clear HR0 HB0 HF0
                obtain ⟨k, dv, xv, ov, hkg, rfl, HEQ, HF, HR, HBr⟩ := hrel
                obtain ⟨rfl, rfl, rfl⟩ := HEQ.out
                clear HEQ
                have HBW := Lib.hid (HBS.out.trans (HBr.out.mono HBS.out.size))
                have hsr := HBr.out.size
                have HUN := Lib.hid (rsU_n gr cm ix l k)
                have HON := Lib.hid (rsO_len gr cm ix l k)
                obtain ⟨us, hus⟩ : ∃ z, rsU gr cm ix l k = z := ⟨_, rfl⟩
                obtain ⟨os, hos⟩ : ∃ z, rsO gr cm ix l k = z := ⟨_, rfl⟩
                rw [hus] at HR HUN HF
                rw [hos] at HR HON
                have HUS := Lib.hid hus
                have HOS := Lib.hid hos
                clear hus hos
                obtain ⟨un, hun⟩ : ∃ z, us.length = z := ⟨_, rfl⟩
                obtain ⟨on, hon⟩ : ∃ z, os.length = z := ⟨_, rfl⟩
                obtain ⟨da, dc, rfl⟩ := HF.out.shapeN (n := un) (by rw [usD_len]; exact hun)
                obtain ⟨xa, xc, rfl⟩ := OwnI.shapeN (n := un) (HR.out.own 0 _ _ rfl) (by rw [usX_len]; exact hun)
                obtain ⟨oa, oc, rfl⟩ := OwnI.shapeN (n := on) (HR.out.own 1 _ _ rfl) hon
                have HUL := Lib.hid hun
                have HOL := Lib.hid hon
                have hun7 : un ≤ k := by have := HUN.out.1; omega
                have hon7 : on ≤ k := by have := HON.out; omega
                clear hun hon
                have cc := HCC.out wr (Below.next HWS.out HBr.out)
                by_cases hlt : k < lvn
                · have hgk : lvn - (k + 1) < gk := by omega
                  have hb : decide ((k : Int) < (lvn : Int)) = true := decide_eq_true (by omega)
                  have hb2 : decide (k < lvn) = true := decide_eq_true hlt
                  have HK : Hid (k < l.length) := by unfold Hid; have := Elv.out; omega
                  obtain ⟨b1, o1, hba, hcx⟩ := Hiv.out.at_ (by have := Eiv.out; have := HLE.out; omega)
                  have K1 := Lib.hid (hcx k (by have := HLE.out; omega))
                  have hba' := hba
                  subst hba'
                  clear hba hcx
                  have HXB : Hid (0 ≤ nth ix k ∧ nth ix k ≤ 1000) := by have h := HIX.out _ (nth_mem' (show k < ix.length by have := Eiv.out; have := HLE.out; omega)); exact ⟨by omega, by omega⟩
                  obtain ⟨bz, oz, zca, zcn, zcc, zsa, zsn, zsc, e, K2, K3, f0, f1⟩ := RdDl.get Hlv.out HK.out
                  have e' := e
                  subst e'
                  clear e
                  have HDD := Lib.hid (HQP.out.2.2.2.2.2 _ (List.getElem_mem HK.out))
                  have hat := (atD_eq HK.out)
                  rw [← hat] at HDD f0 f1
                  clear hat
                  have HST : Hid (∀ {bn : Nat} {C0 AT : Int} (q : Bool), nth (atD l k).c 0 = C0 → atE gr cm (nth ix k) = AT → (badE gr (atD l k)).length = bn → (((C0 == AT) && decide (bn = 0)) && (decide (us.length = 0) || smB (atD l k) (atD l (nth us 0).toNat))) = q → rsO gr cm ix l (k + 1) = (if q = true then os else os ++ [(k : Int)]) ∧ usD l (rsU gr cm ix l (k + 1)) = (if q = true then usD l us ++ [atD l k] else usD l us) ∧ usX ix (rsU gr cm ix l (k + 1)) = (if q = true then usX ix us ++ [nth ix k] else usX ix us)) := fun q hC hA hb hq => rs_steps HUS.out HOS.out rfl rfl hC hA hb q hq
                  obtain ⟨X, hX⟩ : ∃ z, nth ix k = z := ⟨_, rfl⟩
                  obtain ⟨Z, hZ⟩ : ∃ z, atD l k = z := ⟨_, rfl⟩
                  rw [hX] at K1 HXB HST
                  rw [hZ] at HDD f0 f1 HST
                  clear hX hZ
                  have HDP := Lib.hid (deB_parts HDD.out)
                  have Ezc := Lib.hid f0.len
                  have Ezs := Lib.hid f1.len
                  have Hzc := Lib.hid f0
                  have Hzs := Lib.hid f1
                  clear f0 f1
                  obtain ⟨zcb, zco, hq, hx⟩ := Hzc.out.at_ (by have := HDP.out.1; have := Ezc.out; omega)
                  have hq' := hq
                  subst hq'
                  clear hq
                  have K4 := Lib.hid (hx 0 (by have := HDP.out.1; have := Ezc.out; omega))
                  clear hx
                  have b0 : (0 : Int) ≤ (k : Int) := by omega
                  have bk1 : (k : Int) < (ivn : Int) := by have := HLE.out; omega
                  have bk2 : (k : Int) < (lvn : Int) := by omega
                  have bz0 : (0 : Int) < (zcn : Int) := by have := HDP.out.1; have := Ezc.out; omega
                  have bz1 : 0 < zcn := by omega
                  have hwk : IntKind.i64.wrap ((k : Int) + 1) = (k : Int) + 1 := IntWalk.i64_in _ (by omega)
                  have HKI : Hid (I64 (k : Int)) := ⟨by omega, by omega⟩
                  have HXI : Hid (I64 X) := by have := HXB.out; exact ⟨by omega, by omega⟩
                  obtain ⟨C0, hC0⟩ : ∃ z, nth Z.c 0 = z := ⟨_, rfl⟩
                  rw [hC0, Nat.add_zero] at K4
                  have HC0 := Lib.hid hC0
                  clear hC0
                  obtain ⟨AT, hAT⟩ : ∃ z, atE gr cm X = z := ⟨_, rfl⟩
                  have HAT := Lib.hid hAT
                  clear hAT
                  obtain ⟨bn, hbn⟩ : ∃ z, (badE gr Z).length = z := ⟨_, rfl⟩
                  have HBN := Lib.hid hbn
                  clear hbn
                  obtain ⟨R1, hR1⟩ : ∃ r, r = wr.heap.size := ⟨_, rfl⟩
                  obtain ⟨V, hV⟩ : ∃ V, V = wr.alloc (.cells #[.slice (some ⟨zcb, zco, none⟩) zcn zcc, .slice zsa zsn zsc] 61) := ⟨_, rfl⟩
                  have hbV : Below wr.heap.size wr V := by rw [hV]; exact (Below.refl _ _).alloc (Nat.le_refl _) _
                  have HP1 : Hid (BoxN V R1 61 [.slice (some ⟨zcb, zco, none⟩) zcn zcc, .slice zsa zsn zsc]) := by unfold Hid; rw [hV, hR1]; exact BoxN.new wr _ _
                  have z0 := box_at K2 HBW.out
                  have z1 := box_at K3 HBW.out
                  clear K2 K3
                  obtain ⟨c0_0, c0_1, c0_2⟩ := cc
                  go_upto_region 8 with fail
                  rw [← hV, ← hR1]
                  replace c0_0 := box_at c0_0 hbV
                  replace c0_1 := box_at c0_1 hbV
                  replace c0_2 := box_at c0_2 hbV
                  have HBV : Hid (Below w.heap.size w V) := HBW.out.trans (hbV.mono HBW.out.size)
                  have HBrV := Lib.hid (HBr.out.trans (hbV.mono HBr.out.size))
                  have HRV := Lib.hid (HR.out.below hbV)
                  have HFV := Lib.hid (HF.out.below hbV)
                  clear hV hbV z0 z1 hR1
                  have p0 := HP1.out.cell (i := 0) rfl
                  have p1 := HP1.out.cell (i := 1) rfl
                  clear HP1
                  have y1 := box_at K1.out HBV.out
                  have y4 := box_at K4.out HBV.out
                  have HBN : Hid (Below w.heap.size w V) := HBV
                  clear HB HCC
                  (try clear hc)
                  obtain ⟨W, rfl⟩ : ∃ z, z = V := ⟨_, rfl⟩
                  have HB := HBN
                  clear HBN
                  have hc : Below W.heap.size W W := Below.refl _ _
                  have HCC : Hid (∀ u, Below W.heap.size W u → u.cell? ⟨w.heap.size, 0, none⟩ = some (.int .i64 gr.p) ∧ u.cell? ⟨w.heap.size, 1, none⟩ = some (.int .i64 gr.q) ∧ u.cell? ⟨w.heap.size, 2, none⟩ = some (.int .i64 gr.g) ∧ u.cell? ⟨R1, 0, none⟩ = some ((.slice (some ⟨zcb, zco, none⟩) zcn zcc)) ∧ u.cell? ⟨R1, 1, none⟩ = some ((.slice zsa zsn zsc)) ∧ u.cell? ⟨b1, o1 + k, none⟩ = some (.int .i64 X) ∧ u.cell? ⟨zcb, zco, none⟩ = some (.int .i64 C0)) := fun u h => ⟨box_at c0_0 h, box_at c0_1 h, box_at c0_2 h, box_at p0 h, box_at p1 h, box_at y1 h, box_at y4 h⟩
                  clear HBV HBW
                  cases hc7 : (C0 == AT) with
                  | false =>
                    try (go_wp2_with fail)
                    refine wp_region_noPanic ?_
                    refine wp_region_P (fun w' => w'.cell? ⟨w.heap.size, 0, none⟩ = some (.int .i64 gr.p) ∧ w'.cell? ⟨w.heap.size, 1, none⟩ = some (.int .i64 gr.q) ∧ w'.cell? ⟨w.heap.size, 2, none⟩ = some (.int .i64 gr.g) ∧ w'.cell? ⟨R1, 0, none⟩ = some ((.slice (some ⟨zcb, zco, none⟩) zcn zcc)) ∧ w'.cell? ⟨R1, 1, none⟩ = some ((.slice zsa zsn zsc)) ∧ w'.cell? ⟨b1, o1 + k, none⟩ = some (.int .i64 X) ∧ w'.cell? ⟨zcb, zco, none⟩ = some (.int .i64 C0)) 22 [(0, []), (1, [0]), (2, [0]), (3, [0]), (4, []), (5, []), (6, []), (7, []), (8, [1, 0]), (9, [0]), (10, [5, 4, 0]), (11, [7, 0]), (12, [0]), (13, [0]), (14, [1]), (15, [1, 0, 2]), (16, [0, 3]), (17, [0, 4]), (18, [5, 0]), (19, [0])] [] (by kernel_rfl) (by kernel_rfl) (by kernel_rfl) rfl (fun _ _ _ _ h => h) (fun w' h => ⟨box_at c0_0 h, box_at c0_1 h, box_at c0_2 h, box_at p0 h, box_at p1 h, box_at y1 h, box_at y4 h⟩) ?_
                    simp only [pickP, pickN, List.getElem?_cons_zero, List.getElem?_cons_succ]
                    iterate 10 (refine' chainP_read _ rfl rfl (fun w' hS' => ?_) ?_; rotate_left; · (simp only [lookP, allP, Act.put, List.getElem?_cons_zero, List.getElem?_cons_succ, List.setIfInBounds_toArray, List.set_cons_zero, List.set_cons_succ]; (try dsimp only at hS'); go_simp; (try with_reducible rfl)))
                    -- 10: call { callee := value (func 60), args := #[t72, t73, t77], argTypes := #[24, 25, 3] }
                    refine chainP_call (d := (some 78)) (.int .i64 AT) rfl rfl (fun w' hS' => ?_) ?_
                    · simp only [lookP, allP, Act.put, List.getElem?_cons_zero, List.getElem?_cons_succ, List.setIfInBounds_toArray, List.set_cons_zero, List.set_cons_succ]
                      intro K hK
                      go_simp
                      go_at_call 60
                      refine (spec_sAt gr _ cm X _ HG.out ((Hcv.out.below (HB.out.trans (hc.mono HB.out.size))).below hS'.1) HEL.out HCL.out HXB.out).mono ?_
                      rintro e u ⟨rfl, hq⟩
                      rw [HAT.out]
                      exact hK.out _ hq
                    iterate 2 (refine' chainP_read _ rfl rfl (fun w' hS' => ?_) ?_; rotate_left; · (simp only [lookP, allP, Act.put, List.getElem?_cons_zero, List.getElem?_cons_succ, List.setIfInBounds_toArray, List.set_cons_zero, List.set_cons_succ]; (try dsimp only at hS'); go_simp; (try with_reducible rfl)))
                    -- 13: load 24 t4
                    refine chainP_skip (d := (some 81)) rfl (fun w' hS' => ?_) ?_
                    · simp only [lookP, allP, Act.put, List.getElem?_cons_zero, List.getElem?_cons_succ, List.setIfInBounds_toArray, List.set_cons_zero, List.set_cons_succ]
                      kernel_rfl
                    -- 14: load 61 t15
                    refine chainP_skip (d := (some 82)) rfl (fun w' hS' => ?_) ?_
                    · simp only [lookP, allP, Act.put, List.getElem?_cons_zero, List.getElem?_cons_succ, List.setIfInBounds_toArray, List.set_cons_zero, List.set_cons_succ]
                      kernel_rfl
                    -- 15: call { callee := value (func 61), args := #[t81, t82], argTypes := #[24, 61] }
                    refine chainP_skip (d := (some 83)) rfl (fun w' hS' => ?_) ?_
                    · simp only [lookP, allP, Act.put, List.getElem?_cons_zero, List.getElem?_cons_succ, List.setIfInBounds_toArray, List.set_cons_zero, List.set_cons_succ]
                      kernel_rfl
                    -- 16: call { callee := builtin Builtin.len, args := #[t83], argTypes := #[25] }
                    refine chainP_skip (d := (some 84)) rfl (fun w' hS' => ?_) ?_
                    · simp only [lookP, allP, Act.put, List.getElem?_cons_zero, List.getElem?_cons_succ, List.setIfInBounds_toArray, List.set_cons_zero, List.set_cons_succ]
                      kernel_rfl
                    -- 17: binOp Bineql 3 t84 (const (int i64 0)) 3
                    refine chainP_skip (d := (some 85)) rfl (fun w' hS' => ?_) ?_
                    · simp only [lookP, allP, Act.put, List.getElem?_cons_zero, List.getElem?_cons_succ, List.setIfInBounds_toArray, List.set_cons_zero, List.set_cons_succ]
                      kernel_rfl
                    iterate 2 (refine' chainP_read _ rfl rfl (fun w' hS' => ?_) ?_; rotate_left; · (simp only [lookP, allP, Act.put, List.getElem?_cons_zero, List.getElem?_cons_succ, List.setIfInBounds_toArray, List.set_cons_zero, List.set_cons_succ]; (try dsimp only at hS'); go_simp; (try with_reducible rfl)))
                    refine chainP_nil (fun u6 hS' => ?_)
                    simp only [allP, Act.put, List.setIfInBounds_toArray, List.set_cons_zero, List.set_cons_succ]
                    have hq6 := hS'.1
                    clear hS'
                    replace hc := Below.next hc hq6
                    clear hq6 c0_0 c0_1 c0_2 p0 p1 y1 y4
                    obtain ⟨c0_0, c0_1, c0_2, p0, p1, y1, y4⟩ := HCC.out _ hc
                    go_wp2_with fail
                    refine NoPanic.normal ?_
                    try (go_wp2_with fail)
                    refine wp_region_noPanic ?_
                    refine wp_region_P (fun w' => w'.cell? ⟨w.heap.size, 0, none⟩ = some (.int .i64 gr.p) ∧ w'.cell? ⟨w.heap.size, 1, none⟩ = some (.int .i64 gr.q) ∧ w'.cell? ⟨w.heap.size, 2, none⟩ = some (.int .i64 gr.g) ∧ w'.cell? ⟨R1, 0, none⟩ = some ((.slice (some ⟨zcb, zco, none⟩) zcn zcc)) ∧ w'.cell? ⟨R1, 1, none⟩ = some ((.slice zsa zsn zsc)) ∧ w'.cell? ⟨b1, o1 + k, none⟩ = some (.int .i64 X) ∧ w'.cell? ⟨zcb, zco, none⟩ = some (.int .i64 C0)) 18 [(0, []), (1, [0]), (2, [0]), (3, [0]), (4, [0, 1]), (5, [0, 2]), (6, [0, 3]), (7, [0]), (8, [0, 1]), (9, [0, 2]), (10, [0, 3]), (11, [4]), (12, [1, 0, 5]), (13, [0, 6]), (14, [7, 0, 11]), (15, [12, 0])] [] (by kernel_rfl) (by kernel_rfl) (by kernel_rfl) rfl (fun _ _ _ _ h => h) (fun w' h => ⟨box_at c0_0 h, box_at c0_1 h, box_at c0_2 h, box_at p0 h, box_at p1 h, box_at y1 h, box_at y4 h⟩) ?_
                    simp only [pickP, pickN, List.getElem?_cons_zero, List.getElem?_cons_succ]
                    iterate 3 (refine' chainP_read _ rfl rfl (fun w' hS' => ?_) ?_; rotate_left; · (simp only [lookP, allP, Act.put, List.getElem?_cons_zero, List.getElem?_cons_succ, List.setIfInBounds_toArray, List.set_cons_zero, List.set_cons_succ]; (try dsimp only at hS'); go_simp; (try with_reducible rfl)))
                    -- 3: move t11
                    refine chainP_skip (d := (some 90)) rfl (fun w' hS' => ?_) ?_
                    · simp only [lookP, allP, Act.put, List.getElem?_cons_zero, List.getElem?_cons_succ, List.setIfInBounds_toArray, List.set_cons_zero, List.set_cons_succ]
                      kernel_rfl
                    -- 4: call { callee := builtin Builtin.len, args := #[t90], argTypes := #[28] }
                    refine chainP_skip (d := (some 91)) rfl (fun w' hS' => ?_) ?_
                    · simp only [lookP, allP, Act.put, List.getElem?_cons_zero, List.getElem?_cons_succ, List.setIfInBounds_toArray, List.set_cons_zero, List.set_cons_succ]
                      kernel_rfl
                    -- 5: binOp Bingtr 3 t91 (const (int i64 0)) 3
                    refine chainP_skip (d := (some 92)) rfl (fun w' hS' => ?_) ?_
                    · simp only [lookP, allP, Act.put, List.getElem?_cons_zero, List.getElem?_cons_succ, List.setIfInBounds_toArray, List.set_cons_zero, List.set_cons_succ]
                      kernel_rfl
                    -- 6: move t92
                    refine chainP_skip (d := (some 93)) rfl (fun w' hS' => ?_) ?_
                    · simp only [lookP, allP, Act.put, List.getElem?_cons_zero, List.getElem?_cons_succ, List.setIfInBounds_toArray, List.set_cons_zero, List.set_cons_succ]
                      kernel_rfl
                    -- 7: move t11
                    refine chainP_skip (d := (some 94)) rfl (fun w' hS' => ?_) ?_
                    · simp only [lookP, allP, Act.put, List.getElem?_cons_zero, List.getElem?_cons_succ, List.setIfInBounds_toArray, List.set_cons_zero, List.set_cons_succ]
                      kernel_rfl
                    -- 8: indexAddr 28 t94 (const (int i64 0))
                    refine chainP_skip (d := (some 95)) rfl (fun w' hS' => ?_) ?_
                    · simp only [lookP, allP, Act.put, List.getElem?_cons_zero, List.getElem?_cons_succ, List.setIfInBounds_toArray, List.set_cons_zero, List.set_cons_succ]
                      kernel_rfl
                    -- 9: load 61 t95
                    refine chainP_skip (d := (some 96)) rfl (fun w' hS' => ?_) ?_
                    · simp only [lookP, allP, Act.put, List.getElem?_cons_zero, List.getElem?_cons_succ, List.setIfInBounds_toArray, List.set_cons_zero, List.set_cons_succ]
                      kernel_rfl
                    -- 10: call { callee := value (func 62), args := #[t96], argTypes := #[61] }
                    refine chainP_skip (d := (some 97)) rfl (fun w' hS' => ?_) ?_
                    · simp only [lookP, allP, Act.put, List.getElem?_cons_zero, List.getElem?_cons_succ, List.setIfInBounds_toArray, List.set_cons_zero, List.set_cons_succ]
                      kernel_rfl
                    -- 11: load 61 t15
                    refine chainP_skip (d := (some 98)) rfl (fun w' hS' => ?_) ?_
                    · simp only [lookP, allP, Act.put, List.getElem?_cons_zero, List.getElem?_cons_succ, List.setIfInBounds_toArray, List.set_cons_zero, List.set_cons_succ]
                      kernel_rfl
                    -- 12: call { callee := value (func 33), args := #[t97, t98], argTypes := #[27, 61] }
                    refine chainP_skip (d := (some 99)) rfl (fun w' hS' => ?_) ?_
                    · simp only [lookP, allP, Act.put, List.getElem?_cons_zero, List.getElem?_cons_succ, List.setIfInBounds_toArray, List.set_cons_zero, List.set_cons_succ]
                      kernel_rfl
                    -- 13: unOp Unnot 4 t99
                    refine chainP_skip (d := (some 100)) rfl (fun w' hS' => ?_) ?_
                    · simp only [lookP, allP, Act.put, List.getElem?_cons_zero, List.getElem?_cons_succ, List.setIfInBounds_toArray, List.set_cons_zero, List.set_cons_succ]
                      kernel_rfl
                    -- 14: pick t93 t100 (const (bool false))
                    refine chainP_skip (d := (some 101)) rfl (fun w' hS' => ?_) ?_
                    · simp only [lookP, allP, Act.put, List.getElem?_cons_zero, List.getElem?_cons_succ, List.setIfInBounds_toArray, List.set_cons_zero, List.set_cons_succ]
                      kernel_rfl
                    -- 15: pick t89 (const (bool true)) t101
                    refine' chainP_read (d := (some 102)) _ rfl rfl (fun w' hS' => ?_) ?_; rotate_left
                    · simp only [lookP, allP, Act.put, List.getElem?_cons_zero, List.getElem?_cons_succ, List.setIfInBounds_toArray, List.set_cons_zero, List.set_cons_succ]
                      (try dsimp only at hS')
                      go_simp
                      (try with_reducible rfl)
                    refine chainP_nil (fun u7 hS' => ?_)
                    simp only [allP, Act.put, List.setIfInBounds_toArray, List.set_cons_zero, List.set_cons_succ]
                    have hq7 := hS'.1
                    clear hS'
                    replace hc := Below.next hc hq7
                    clear hq7 c0_0 c0_1 c0_2 p0 p1 y1 y4
                    obtain ⟨c0_0, c0_1, c0_2, p0, p1, y1, y4⟩ := HCC.out _ hc
                    go_wp2_with fail
                    refine NoPanic.normal ?_
                    have HSQ := Lib.hid (HST.out false HC0.out HAT.out HBN.out (by rw [hc7]; simp))
                    have HRZ := Lib.hid (HRV.out.below hc)
                    have HFZ := Lib.hid (HFV.out.below hc)
                    have HBZ := Lib.hid (HBrV.out.trans (hc.mono HBrV.out.size))
                    have hszz : u3.heap.size ≤ u7.heap.size := HBZ.out.size
                    go_wp2_with (at_builtin; refine RowsI.list_appF rfl _ _ rfl (HRZ.out.below ((Below.refl _ _).alloc (Nat.le_refl _) _)) (HFZ.out.below ((Below.refl _ _).alloc (Nat.le_refl _) _)) (by simp; omega) 1 (.slice oa on oc) rfl (Ints.lit1 _ HKI.out) (by simp) (on + 1) (by have := HOL.out; simp; omega) (by omega) rfl rfl ?_; intro a9 c9 w9 h9 f9 hb9; have HR9 := Lib.hid h9; have HF9 := Lib.hid f9; have HB9 : Hid (Below u3.heap.size u3 w9) := (HBZ.out.trans ((Below.refl _ _).alloc (by omega) _)).trans hb9; clear h9 hb9 f9 c0_0 c0_1 c0_2 p0 p1 y1 y4)
                    go_roundg (lvn - (k + 1))
                    case measure => exact hgk
                    case rel => exact ⟨k + 1, _, _, _, by omega, by go_num, Lib.hid ⟨rfl, rfl, rfl⟩, by unfold Hid; rw [HSQ.out.2.1]; exact HF9.out, by unfold Hid; rw [HSQ.out.1, HSQ.out.2.2]; exact HR9.out, HB9⟩
                  | true =>
                    try (go_wp2_with fail)
                    refine wp_region_noPanic ?_
                    refine wp_region_P (fun w' => w'.cell? ⟨w.heap.size, 0, none⟩ = some (.int .i64 gr.p) ∧ w'.cell? ⟨w.heap.size, 1, none⟩ = some (.int .i64 gr.q) ∧ w'.cell? ⟨w.heap.size, 2, none⟩ = some (.int .i64 gr.g) ∧ w'.cell? ⟨R1, 0, none⟩ = some ((.slice (some ⟨zcb, zco, none⟩) zcn zcc)) ∧ w'.cell? ⟨R1, 1, none⟩ = some ((.slice zsa zsn zsc)) ∧ w'.cell? ⟨b1, o1 + k, none⟩ = some (.int .i64 X) ∧ w'.cell? ⟨zcb, zco, none⟩ = some (.int .i64 C0)) 22 [(0, []), (1, [0]), (2, [0]), (3, [0]), (4, []), (5, []), (6, []), (7, []), (8, [1, 0]), (9, [0]), (10, [5, 4, 0]), (11, [7, 0]), (12, [0]), (13, [0]), (14, [1]), (15, [1, 0, 2]), (16, [0, 3]), (17, [0, 4]), (18, [5, 0]), (19, [0])] [] (by kernel_rfl) (by kernel_rfl) (by kernel_rfl) rfl (fun _ _ _ _ h => h) (fun w' h => ⟨box_at c0_0 h, box_at c0_1 h, box_at c0_2 h, box_at p0 h, box_at p1 h, box_at y1 h, box_at y4 h⟩) ?_
                    simp only [pickP, pickN, List.getElem?_cons_zero, List.getElem?_cons_succ]
                    iterate 10 (refine' chainP_read _ rfl rfl (fun w' hS' => ?_) ?_; rotate_left; · (simp only [lookP, allP, Act.put, List.getElem?_cons_zero, List.getElem?_cons_succ, List.setIfInBounds_toArray, List.set_cons_zero, List.set_cons_succ]; (try dsimp only at hS'); go_simp; (try with_reducible rfl)))
                    -- 10: call { callee := value (func 60), args := #[t72, t73, t77], argTypes := #[24, 25, 3] }
                    refine chainP_call (d := (some 78)) (.int .i64 AT) rfl rfl (fun w' hS' => ?_) ?_
                    · simp only [lookP, allP, Act.put, List.getElem?_cons_zero, List.getElem?_cons_succ, List.setIfInBounds_toArray, List.set_cons_zero, List.set_cons_succ]
                      intro K hK
                      go_simp
                      go_at_call 60
                      refine (spec_sAt gr _ cm X _ HG.out ((Hcv.out.below (HB.out.trans (hc.mono HB.out.size))).below hS'.1) HEL.out HCL.out HXB.out).mono ?_
                      rintro e u ⟨rfl, hq⟩
                      rw [HAT.out]
                      exact hK.out _ hq
                    iterate 2 (refine' chainP_read _ rfl rfl (fun w' hS' => ?_) ?_; rotate_left; · (simp only [lookP, allP, Act.put, List.getElem?_cons_zero, List.getElem?_cons_succ, List.setIfInBounds_toArray, List.set_cons_zero, List.set_cons_succ]; (try dsimp only at hS'); go_simp; (try with_reducible rfl)))
                    -- 13: load 24 t4
                    refine' chainP_readG (d := (some 81)) _ rfl (fun w' hS' => ?_) ?_; rotate_left
                    · simp only [lookP, allP, Act.put, List.getElem?_cons_zero, List.getElem?_cons_succ, List.setIfInBounds_toArray, List.set_cons_zero, List.set_cons_succ]
                      refine ⟨by kernel_rfl, ?_⟩
                      (try dsimp only at hS')
                      go_simp
                      (try with_reducible rfl)
                    -- 14: load 61 t15
                    refine' chainP_readG (d := (some 82)) _ rfl (fun w' hS' => ?_) ?_; rotate_left
                    · simp only [lookP, allP, Act.put, List.getElem?_cons_zero, List.getElem?_cons_succ, List.setIfInBounds_toArray, List.set_cons_zero, List.set_cons_succ]
                      refine ⟨by kernel_rfl, ?_⟩
                      (try dsimp only at hS')
                      go_simp
                      (try with_reducible rfl)
                    -- 15: call { callee := value (func 61), args := #[t81, t82], argTypes := #[24, 61] }
                    refine chainP_doG (d := (some 83)) (fun v u => ∃ (a : Option Addr) (c : Nat), v = .slice a bn c) (fun v w1 w2 hw h => h) rfl (fun w' hS' => ?_) ?_
                    · simp only [lookP, allP, Act.put, List.getElem?_cons_zero, List.getElem?_cons_succ, List.setIfInBounds_toArray, List.set_cons_zero, List.set_cons_succ]
                      refine ⟨by kernel_rfl, ?_⟩
                      intro K hK
                      go_simp
                      go_at_call 61
                      refine (spec_sBadD gr _ Z _ HG.out (DlR.mk (((Hzc.out.below (HB.out.trans (hc.mono HB.out.size))).below hS'.1)) (((Hzs.out.below (HB.out.trans (hc.mono HB.out.size))).below hS'.1))) HDD.out).mono ?_
                      rintro e u ⟨⟨vb, rfl, hob⟩, hq⟩
                      obtain ⟨ba, bc, rfl⟩ := OwnI.shapeN (n := bn) hob HBN.out
                      exact hK.out _ _ hq ⟨ba, bc, rfl⟩
                    -- 16: call { callee := builtin Builtin.len, args := #[t83], argTypes := #[25] }
                    refine chainP_readG (d := (some 84)) (.int .i64 (bn : Int)) rfl (fun w' hS' => ?_) ?_
                    · simp only [lookP, allP, Act.put, List.getElem?_cons_zero, List.getElem?_cons_succ, List.setIfInBounds_toArray, List.set_cons_zero, List.set_cons_succ]
                      intro x15 hx15
                      refine ⟨by kernel_rfl, ?_⟩
                      obtain ⟨a16, c16, rfl⟩ := hx15
                      go_simp
                    -- 17: binOp Bineql 3 t84 (const (int i64 0)) 3
                    refine' chainP_readG (d := (some 85)) _ rfl (fun w' hS' => ?_) ?_; rotate_left
                    · simp only [lookP, allP, Act.put, List.getElem?_cons_zero, List.getElem?_cons_succ, List.setIfInBounds_toArray, List.set_cons_zero, List.set_cons_succ]
                      refine ⟨by kernel_rfl, ?_⟩
                      (try dsimp only at hS')
                      go_simp
                      (try with_reducible rfl)
                    iterate 2 (refine' chainP_read _ rfl rfl (fun w' hS' => ?_) ?_; rotate_left; · (simp only [lookP, allP, Act.put, List.getElem?_cons_zero, List.getElem?_cons_succ, List.setIfInBounds_toArray, List.set_cons_zero, List.set_cons_succ]; (try dsimp only at hS'); go_simp; (try with_reducible rfl)))
                    refine chainP_nil (fun u6 hS' => ?_)
                    simp only [allP, Act.put, List.setIfInBounds_toArray, List.set_cons_zero, List.set_cons_succ]
                    intro x15 hx15
                    have hq6 := hS'.1
                    clear hS'
                    replace hc := Below.next hc hq6
                    clear hq6 c0_0 c0_1 c0_2 p0 p1 y1 y4
                    obtain ⟨c0_0, c0_1, c0_2, p0, p1, y1, y4⟩ := HCC.out _ hc
                    go_wp2_with fail
                    refine NoPanic.normal ?_
                    cases hc8 : ((bn : Int) == 0) with
                    | false =>
                      try (go_wp2_with fail)
                      refine wp_region_noPanic ?_
                      refine wp_region_P (fun w' => w'.cell? ⟨w.heap.size, 0, none⟩ = some (.int .i64 gr.p) ∧ w'.cell? ⟨w.heap.size, 1, none⟩ = some (.int .i64 gr.q) ∧ w'.cell? ⟨w.heap.size, 2, none⟩ = some (.int .i64 gr.g) ∧ w'.cell? ⟨R1, 0, none⟩ = some ((.slice (some ⟨zcb, zco, none⟩) zcn zcc)) ∧ w'.cell? ⟨R1, 1, none⟩ = some ((.slice zsa zsn zsc)) ∧ w'.cell? ⟨b1, o1 + k, none⟩ = some (.int .i64 X) ∧ w'.cell? ⟨zcb, zco, none⟩ = some (.int .i64 C0)) 18 [(0, []), (1, [0]), (2, [0]), (3, [0]), (4, [0, 1]), (5, [0, 2]), (6, [0, 3]), (7, [0]), (8, [0, 1]), (9, [0, 2]), (10, [0, 3]), (11, [4]), (12, [1, 0, 5]), (13, [0, 6]), (14, [7, 0, 11]), (15, [12, 0])] [] (by kernel_rfl) (by kernel_rfl) (by kernel_rfl) rfl (fun _ _ _ _ h => h) (fun w' h => ⟨box_at c0_0 h, box_at c0_1 h, box_at c0_2 h, box_at p0 h, box_at p1 h, box_at y1 h, box_at y4 h⟩) ?_
                      simp only [pickP, pickN, List.getElem?_cons_zero, List.getElem?_cons_succ]
                      iterate 3 (refine' chainP_read _ rfl rfl (fun w' hS' => ?_) ?_; rotate_left; · (simp only [lookP, allP, Act.put, List.getElem?_cons_zero, List.getElem?_cons_succ, List.setIfInBounds_toArray, List.set_cons_zero, List.set_cons_succ]; (try dsimp only at hS'); go_simp; (try with_reducible rfl)))
                      -- 3: move t11
                      refine chainP_skip (d := (some 90)) rfl (fun w' hS' => ?_) ?_
                      · simp only [lookP, allP, Act.put, List.getElem?_cons_zero, List.getElem?_cons_succ, List.setIfInBounds_toArray, List.set_cons_zero, List.set_cons_succ]
                        kernel_rfl
                      -- 4: call { callee := builtin Builtin.len, args := #[t90], argTypes := #[28] }
                      refine chainP_skip (d := (some 91)) rfl (fun w' hS' => ?_) ?_
                      · simp only [lookP, allP, Act.put, List.getElem?_cons_zero, List.getElem?_cons_succ, List.setIfInBounds_toArray, List.set_cons_zero, List.set_cons_succ]
                        kernel_rfl
                      -- 5: binOp Bingtr 3 t91 (const (int i64 0)) 3
                      refine chainP_skip (d := (some 92)) rfl (fun w' hS' => ?_) ?_
                      · simp only [lookP, allP, Act.put, List.getElem?_cons_zero, List.getElem?_cons_succ, List.setIfInBounds_toArray, List.set_cons_zero, List.set_cons_succ]
                        kernel_rfl
                      -- 6: move t92
                      refine chainP_skip (d := (some 93)) rfl (fun w' hS' => ?_) ?_
                      · simp only [lookP, allP, Act.put, List.getElem?_cons_zero, List.getElem?_cons_succ, List.setIfInBounds_toArray, List.set_cons_zero, List.set_cons_succ]
                        kernel_rfl
                      -- 7: move t11
                      refine chainP_skip (d := (some 94)) rfl (fun w' hS' => ?_) ?_
                      · simp only [lookP, allP, Act.put, List.getElem?_cons_zero, List.getElem?_cons_succ, List.setIfInBounds_toArray, List.set_cons_zero, List.set_cons_succ]
                        kernel_rfl
                      -- 8: indexAddr 28 t94 (const (int i64 0))
                      refine chainP_skip (d := (some 95)) rfl (fun w' hS' => ?_) ?_
                      · simp only [lookP, allP, Act.put, List.getElem?_cons_zero, List.getElem?_cons_succ, List.setIfInBounds_toArray, List.set_cons_zero, List.set_cons_succ]
                        kernel_rfl
                      -- 9: load 61 t95
                      refine chainP_skip (d := (some 96)) rfl (fun w' hS' => ?_) ?_
                      · simp only [lookP, allP, Act.put, List.getElem?_cons_zero, List.getElem?_cons_succ, List.setIfInBounds_toArray, List.set_cons_zero, List.set_cons_succ]
                        kernel_rfl
                      -- 10: call { callee := value (func 62), args := #[t96], argTypes := #[61] }
                      refine chainP_skip (d := (some 97)) rfl (fun w' hS' => ?_) ?_
                      · simp only [lookP, allP, Act.put, List.getElem?_cons_zero, List.getElem?_cons_succ, List.setIfInBounds_toArray, List.set_cons_zero, List.set_cons_succ]
                        kernel_rfl
                      -- 11: load 61 t15
                      refine chainP_skip (d := (some 98)) rfl (fun w' hS' => ?_) ?_
                      · simp only [lookP, allP, Act.put, List.getElem?_cons_zero, List.getElem?_cons_succ, List.setIfInBounds_toArray, List.set_cons_zero, List.set_cons_succ]
                        kernel_rfl
                      -- 12: call { callee := value (func 33), args := #[t97, t98], argTypes := #[27, 61] }
                      refine chainP_skip (d := (some 99)) rfl (fun w' hS' => ?_) ?_
                      · simp only [lookP, allP, Act.put, List.getElem?_cons_zero, List.getElem?_cons_succ, List.setIfInBounds_toArray, List.set_cons_zero, List.set_cons_succ]
                        kernel_rfl
                      -- 13: unOp Unnot 4 t99
                      refine chainP_skip (d := (some 100)) rfl (fun w' hS' => ?_) ?_
                      · simp only [lookP, allP, Act.put, List.getElem?_cons_zero, List.getElem?_cons_succ, List.setIfInBounds_toArray, List.set_cons_zero, List.set_cons_succ]
                        kernel_rfl
                      -- 14: pick t93 t100 (const (bool false))
                      refine chainP_skip (d := (some 101)) rfl (fun w' hS' => ?_) ?_
                      · simp only [lookP, allP, Act.put, List.getElem?_cons_zero, List.getElem?_cons_succ, List.setIfInBounds_toArray, List.set_cons_zero, List.set_cons_succ]
                        kernel_rfl
                      -- 15: pick t89 (const (bool true)) t101
                      refine' chainP_read (d := (some 102)) _ rfl rfl (fun w' hS' => ?_) ?_; rotate_left
                      · simp only [lookP, allP, Act.put, List.getElem?_cons_zero, List.getElem?_cons_succ, List.setIfInBounds_toArray, List.set_cons_zero, List.set_cons_succ]
                        (try dsimp only at hS')
                        go_simp
                        (try with_reducible rfl)
                      refine chainP_nil (fun u7 hS' => ?_)
                      simp only [allP, Act.put, List.setIfInBounds_toArray, List.set_cons_zero, List.set_cons_succ]
                      have hq7 := hS'.1
                      clear hS'
                      replace hc := Below.next hc hq7
                      clear hq7 c0_0 c0_1 c0_2 p0 p1 y1 y4
                      obtain ⟨c0_0, c0_1, c0_2, p0, p1, y1, y4⟩ := HCC.out _ hc
                      go_wp2_with fail
                      refine NoPanic.normal ?_
                      have HSQ := Lib.hid (HST.out false HC0.out HAT.out HBN.out (by rw [hc7]; rw [show decide (bn = 0) = false by exact decide_eq_false (by have q := hc8; rw [beq_eq_false_iff_ne] at q; omega)]; simp))
                      have HRZ := Lib.hid (HRV.out.below hc)
                      have HFZ := Lib.hid (HFV.out.below hc)
                      have HBZ := Lib.hid (HBrV.out.trans (hc.mono HBrV.out.size))
                      have hszz : u3.heap.size ≤ u7.heap.size := HBZ.out.size
                      go_wp2_with (at_builtin; refine RowsI.list_appF rfl _ _ rfl (HRZ.out.below ((Below.refl _ _).alloc (Nat.le_refl _) _)) (HFZ.out.below ((Below.refl _ _).alloc (Nat.le_refl _) _)) (by simp; omega) 1 (.slice oa on oc) rfl (Ints.lit1 _ HKI.out) (by simp) (on + 1) (by have := HOL.out; simp; omega) (by omega) rfl rfl ?_; intro a9 c9 w9 h9 f9 hb9; have HR9 := Lib.hid h9; have HF9 := Lib.hid f9; have HB9 : Hid (Below u3.heap.size u3 w9) := (HBZ.out.trans ((Below.refl _ _).alloc (by omega) _)).trans hb9; clear h9 hb9 f9 c0_0 c0_1 c0_2 p0 p1 y1 y4)
                      go_roundg (lvn - (k + 1))
                      case measure => exact hgk
                      case rel => exact ⟨k + 1, _, _, _, by omega, by go_num, Lib.hid ⟨rfl, rfl, rfl⟩, by unfold Hid; rw [HSQ.out.2.1]; exact HF9.out, by unfold Hid; rw [HSQ.out.1, HSQ.out.2.2]; exact HR9.out, HB9⟩
                    | true =>
                      cases hc9 : decide (0 < (un : Int)) with
                      | false =>
                        have hcpU : ¬ 0 < un := by have q := of_decide_eq_false hc9; omega
                        have hcnU : decide (0 < un) = false := decide_eq_false hcpU
                        try (go_wp2_with fail)
                        refine wp_region_noPanic ?_
                        refine wp_region_P (fun w' => w'.cell? ⟨w.heap.size, 0, none⟩ = some (.int .i64 gr.p) ∧ w'.cell? ⟨w.heap.size, 1, none⟩ = some (.int .i64 gr.q) ∧ w'.cell? ⟨w.heap.size, 2, none⟩ = some (.int .i64 gr.g) ∧ w'.cell? ⟨R1, 0, none⟩ = some ((.slice (some ⟨zcb, zco, none⟩) zcn zcc)) ∧ w'.cell? ⟨R1, 1, none⟩ = some ((.slice zsa zsn zsc)) ∧ w'.cell? ⟨b1, o1 + k, none⟩ = some (.int .i64 X) ∧ w'.cell? ⟨zcb, zco, none⟩ = some (.int .i64 C0)) 18 [(0, []), (1, [0]), (2, [0]), (3, [0]), (4, [0, 1]), (5, [0, 2]), (6, [0, 3]), (7, [0]), (8, [0, 1]), (9, [0, 2]), (10, [0, 3]), (11, [4]), (12, [1, 0, 5]), (13, [0, 6]), (14, [7, 0, 11]), (15, [12, 0])] [] (by kernel_rfl) (by kernel_rfl) (by kernel_rfl) rfl (fun _ _ _ _ h => h) (fun w' h => ⟨box_at c0_0 h, box_at c0_1 h, box_at c0_2 h, box_at p0 h, box_at p1 h, box_at y1 h, box_at y4 h⟩) ?_
                        simp only [pickP, pickN, List.getElem?_cons_zero, List.getElem?_cons_succ]
                        iterate 3 (refine' chainP_read _ rfl rfl (fun w' hS' => ?_) ?_; rotate_left; · (simp only [lookP, allP, Act.put, List.getElem?_cons_zero, List.getElem?_cons_succ, List.setIfInBounds_toArray, List.set_cons_zero, List.set_cons_succ]; (try dsimp only at hS'); go_simp; (try with_reducible rfl)))
                        -- 3: move t11
                        refine' chainP_readG (d := (some 90)) _ rfl (fun w' hS' => ?_) ?_; rotate_left
                        · simp only [lookP, allP, Act.put, List.getElem?_cons_zero, List.getElem?_cons_succ, List.setIfInBounds_toArray, List.set_cons_zero, List.set_cons_succ]
                          refine ⟨by kernel_rfl, ?_⟩
                          (try dsimp only at hS')
                          go_simp
                          (try with_reducible rfl)
                        -- 4: call { callee := builtin Builtin.len, args := #[t90], argTypes := #[28] }
                        refine' chainP_readG (d := (some 91)) _ rfl (fun w' hS' => ?_) ?_; rotate_left
                        · simp only [lookP, allP, Act.put, List.getElem?_cons_zero, List.getElem?_cons_succ, List.setIfInBounds_toArray, List.set_cons_zero, List.set_cons_succ]
                          refine ⟨by kernel_rfl, ?_⟩
                          (try dsimp only at hS')
                          go_simp
                          (try with_reducible rfl)
                        -- 5: binOp Bingtr 3 t91 (const (int i64 0)) 3
                        refine' chainP_readG (d := (some 92)) _ rfl (fun w' hS' => ?_) ?_; rotate_left
                        · simp only [lookP, allP, Act.put, List.getElem?_cons_zero, List.getElem?_cons_succ, List.setIfInBounds_toArray, List.set_cons_zero, List.set_cons_succ]
                          refine ⟨by kernel_rfl, ?_⟩
                          (try dsimp only at hS')
                          go_simp
                          (try with_reducible rfl)
                        -- 6: move t92
                        refine' chainP_readG (d := (some 93)) _ rfl (fun w' hS' => ?_) ?_; rotate_left
                        · simp only [lookP, allP, Act.put, List.getElem?_cons_zero, List.getElem?_cons_succ, List.setIfInBounds_toArray, List.set_cons_zero, List.set_cons_succ]
                          refine ⟨by kernel_rfl, ?_⟩
                          (try dsimp only at hS')
                          go_simp
                          (try with_reducible rfl)
                        -- 7: move t11
                        refine chainP_skip (d := (some 94)) rfl (fun w' hS' => ?_) ?_
                        · simp only [lookP, allP, Act.put, List.getElem?_cons_zero, List.getElem?_cons_succ, List.setIfInBounds_toArray, List.set_cons_zero, List.set_cons_succ]
                          kernel_rfl
                        -- 8: indexAddr 28 t94 (const (int i64 0))
                        refine chainP_skip (d := (some 95)) rfl (fun w' hS' => ?_) ?_
                        · simp only [lookP, allP, Act.put, List.getElem?_cons_zero, List.getElem?_cons_succ, List.setIfInBounds_toArray, List.set_cons_zero, List.set_cons_succ]
                          kernel_rfl
                        -- 9: load 61 t95
                        refine chainP_skip (d := (some 96)) rfl (fun w' hS' => ?_) ?_
                        · simp only [lookP, allP, Act.put, List.getElem?_cons_zero, List.getElem?_cons_succ, List.setIfInBounds_toArray, List.set_cons_zero, List.set_cons_succ]
                          kernel_rfl
                        -- 10: call { callee := value (func 62), args := #[t96], argTypes := #[61] }
                        refine chainP_skip (d := (some 97)) rfl (fun w' hS' => ?_) ?_
                        · simp only [lookP, allP, Act.put, List.getElem?_cons_zero, List.getElem?_cons_succ, List.setIfInBounds_toArray, List.set_cons_zero, List.set_cons_succ]
                          kernel_rfl
                        -- 11: load 61 t15
                        refine chainP_skip (d := (some 98)) rfl (fun w' hS' => ?_) ?_
                        · simp only [lookP, allP, Act.put, List.getElem?_cons_zero, List.getElem?_cons_succ, List.setIfInBounds_toArray, List.set_cons_zero, List.set_cons_succ]
                          kernel_rfl
                        -- 12: call { callee := value (func 33), args := #[t97, t98], argTypes := #[27, 61] }
                        refine chainP_skip (d := (some 99)) rfl (fun w' hS' => ?_) ?_
                        · simp only [lookP, allP, Act.put, List.getElem?_cons_zero, List.getElem?_cons_succ, List.setIfInBounds_toArray, List.set_cons_zero, List.set_cons_succ]
                          kernel_rfl
                        -- 13: unOp Unnot 4 t99
                        refine chainP_skip (d := (some 100)) rfl (fun w' hS' => ?_) ?_
                        · simp only [lookP, allP, Act.put, List.getElem?_cons_zero, List.getElem?_cons_succ, List.setIfInBounds_toArray, List.set_cons_zero, List.set_cons_succ]
                          kernel_rfl
                        -- 14: pick t93 t100 (const (bool false))
                        refine' chainP_readG (d := (some 101)) _ rfl (fun w' hS' => ?_) ?_; rotate_left
                        · simp only [lookP, allP, Act.put, List.getElem?_cons_zero, List.getElem?_cons_succ, List.setIfInBounds_toArray, List.set_cons_zero, List.set_cons_succ]
                          refine ⟨by kernel_rfl, ?_⟩
                          (try dsimp only at hS')
                          go_simp
                          (try with_reducible rfl)
                        -- 15: pick t89 (const (bool true)) t101
                        refine' chainP_read (d := (some 102)) _ rfl rfl (fun w' hS' => ?_) ?_; rotate_left
                        · simp only [lookP, allP, Act.put, List.getElem?_cons_zero, List.getElem?_cons_succ, List.setIfInBounds_toArray, List.set_cons_zero, List.set_cons_succ]
                          (try dsimp only at hS')
                          go_simp
                          (try with_reducible rfl)
                        refine chainP_nil (fun u7 hS' => ?_)
                        simp only [allP, Act.put, List.setIfInBounds_toArray, List.set_cons_zero, List.set_cons_succ]
                        have hq7 := hS'.1
                        clear hS'
                        replace hc := Below.next hc hq7
                        clear hq7 c0_0 c0_1 c0_2 p0 p1 y1 y4
                        obtain ⟨c0_0, c0_1, c0_2, p0, p1, y1, y4⟩ := HCC.out _ hc
                        go_wp2_with fail
                        refine NoPanic.normal ?_
                        have HSQ := Lib.hid (HST.out true HC0.out HAT.out HBN.out (by rw [hc7]; rw [show decide (bn = 0) = true by exact decide_eq_true (by have q := hc8; rw [beq_iff_eq] at q; omega)]; rw [show decide (us.length = 0) = true by exact decide_eq_true (by have q := of_decide_eq_false hc9; have := HUL.out; omega)]; simp))
                        have HRZ := Lib.hid (HRV.out.below hc)
                        have HFZ := Lib.hid (HFV.out.below hc)
                        have HBZ := Lib.hid (HBrV.out.trans (hc.mono HBrV.out.size))
                        have hszz : u3.heap.size ≤ u7.heap.size := HBZ.out.size
                        go_upto_region 12 with (at_builtin; refine wpList_append_For rfl _ _ rfl (b := u7.heap.size) (.slice da un dc) (usD l us) Z rfl rfl (HFZ.out.below ((Below.refl _ _).alloc (Nat.le_refl _) _)) (Hzc.out.below HBS.out) (Hzs.out.below HBS.out) ((BoxN.new u7 [.slice (some ⟨zcb, zco, none⟩) zcn zcc, .slice zsa zsn zsc] 61).cell (i := 0) rfl) ((BoxN.new u7 [.slice (some ⟨zcb, zco, none⟩) zcn zcc, .slice zsa zsn zsc] 61).cell (i := 1) rfl) (by simp; omega) (by rw [usD_len]; have := HUL.out; omega) (un + 1) (by rw [usD_len]; have := HUL.out; omega) ?_; intro a8 c8 w8 f8 hb8 hk8; have HF8 := Lib.hid f8; have hal8 : Below u7.heap.size u7 (u7.alloc (.cells #[.slice (some ⟨zcb, zco, none⟩) zcn zcc, .slice zsa zsn zsc] 61)) := (Below.refl _ _).alloc (Nat.le_refl _) _; have HR8 := Lib.hid ((HRZ.out.below hal8).keep hk8); have HB8 : Hid (Below u3.heap.size u3 w8) := (HBZ.out.trans ((Below.refl _ _).alloc (by omega) _)).trans hb8; clear f8 hb8 hk8 hal8)
                        have hsz8 := HB8.out.size
                        clear c0_0 c0_1 c0_2 p0 p1 y1 y4
                        have y1 := box_at K1.out (HBS.out.trans (HB8.out.mono HBS.out.size))
                        go_wp2_with (at_builtin; refine RowsI.list_appF rfl _ _ rfl (HR8.out.below ((Below.refl _ _).alloc (Nat.le_refl _) _)) (HF8.out.below ((Below.refl _ _).alloc (Nat.le_refl _) _)) (by simp; omega) 0 (.slice xa un xc) rfl (Ints.lit1 _ HXI.out) (by simp) (un + 1) (by rw [usX_len]; have := HUL.out; simp; omega) (by omega) rfl rfl ?_; intro a9 c9 w9 h9 f9 hb9; have HR9 := Lib.hid h9; have HF9 := Lib.hid f9; have HB9 : Hid (Below u3.heap.size u3 w9) := (HB8.out.trans ((Below.refl _ _).alloc (by omega) _)).trans hb9; clear h9 hb9 f9 y1)
                        go_roundg (lvn - (k + 1))
                        case measure => exact hgk
                        case rel => exact ⟨k + 1, _, _, _, by omega, by go_num, Lib.hid ⟨rfl, rfl, rfl⟩, by unfold Hid; rw [HSQ.out.2.1]; exact HF9.out, by unfold Hid; rw [HSQ.out.1, HSQ.out.2.2]; exact HR9.out, HB9⟩
                      | true =>
                        have hcpU : 0 < un := by have q := of_decide_eq_true hc9; omega
                        have hcnU : decide (0 < un) = true := decide_eq_true hcpU
                        have hun0 : 0 < un := by have q := of_decide_eq_true hc9; omega
                        obtain ⟨db, dq, yca, ycn, ycc, ysa, ysn, ysc, e, L2, L3, g0, g1⟩ := RdDl.get HFV.out.rd (show 0 < (usD l us).length by rw [usD_len]; have := HUL.out; omega)
                        cases e
                        rw [Nat.zero_mul, Nat.add_zero] at L2 L3
                        rw [← atD_eq] at g0 g1
                        have hY0 := usD_at l us (k := 0) (by have := HUL.out; omega)
                        obtain ⟨j0, hj0, hju⟩ := HUN.out.2 0 (by have := HUL.out; omega)
                        have HYB : Hid (deB gr (atD (usD l us) 0) = true) := by unfold Hid; rw [hY0, hju, Int.toNat_natCast]; exact HQP.out.2.2.2.2.2 _ (by rw [atD_eq (show j0 < l.length by have := HK.out; omega)]; exact List.getElem_mem _)
                        obtain ⟨Y, hY⟩ : ∃ z, atD (usD l us) 0 = z := ⟨_, rfl⟩
                        rw [hY] at g0 g1 HYB
                        have HYY : Hid (smB Z (atD l (nth us 0).toNat) = smB Z Y) := by unfold Hid; rw [← hY0, hY]
                        clear hY hY0 hju
                        have HYP := Lib.hid (deB_parts HYB.out).1
                        have Hyc := Lib.hid g0
                        have Hys := Lib.hid g1
                        have KL2 := Lib.hid L2
                        have KL3 := Lib.hid L3
                        have v0 := box_at L2 hc
                        have v1 := box_at L3 hc
                        have bu0 : (0 : Int) < (un : Int) := by omega
                        clear L2 L3 g0 g1
                        replace HCC : Hid (∀ u, Below W.heap.size W u → u.cell? ⟨w.heap.size, 0, none⟩ = some (.int .i64 gr.p) ∧ u.cell? ⟨w.heap.size, 1, none⟩ = some (.int .i64 gr.q) ∧ u.cell? ⟨w.heap.size, 2, none⟩ = some (.int .i64 gr.g) ∧ u.cell? ⟨R1, 0, none⟩ = some ((.slice (some ⟨zcb, zco, none⟩) zcn zcc)) ∧ u.cell? ⟨R1, 1, none⟩ = some ((.slice zsa zsn zsc)) ∧ u.cell? ⟨b1, o1 + k, none⟩ = some (.int .i64 X) ∧ u.cell? ⟨zcb, zco, none⟩ = some (.int .i64 C0) ∧ u.cell? ⟨db, dq, none⟩ = some ((.slice yca ycn ycc)) ∧ u.cell? ⟨db, dq + 1, none⟩ = some ((.slice ysa ysn ysc))) := fun u h => by obtain ⟨c0_0, c0_1, c0_2, p0, p1, y1, y4⟩ := HCC.out u h; exact ⟨c0_0, c0_1, c0_2, p0, p1, y1, y4, box_at KL2.out h, box_at KL3.out h⟩
                        cases hc10 : smB Z Y with
                        | false =>
                          have Hhc10 := Lib.hid hc10
                          clear hc10
                          try (go_wp2_with fail)
                          refine wp_region_noPanic ?_
                          refine wp_region_P (fun w' => w'.cell? ⟨w.heap.size, 0, none⟩ = some (.int .i64 gr.p) ∧ w'.cell? ⟨w.heap.size, 1, none⟩ = some (.int .i64 gr.q) ∧ w'.cell? ⟨w.heap.size, 2, none⟩ = some (.int .i64 gr.g) ∧ w'.cell? ⟨R1, 0, none⟩ = some ((.slice (some ⟨zcb, zco, none⟩) zcn zcc)) ∧ w'.cell? ⟨R1, 1, none⟩ = some ((.slice zsa zsn zsc)) ∧ w'.cell? ⟨b1, o1 + k, none⟩ = some (.int .i64 X) ∧ w'.cell? ⟨zcb, zco, none⟩ = some (.int .i64 C0) ∧ w'.cell? ⟨db, dq, none⟩ = some ((.slice yca ycn ycc)) ∧ w'.cell? ⟨db, dq + 1, none⟩ = some ((.slice ysa ysn ysc))) 18 [(0, []), (1, [0]), (2, [0]), (3, [0]), (4, [0, 1]), (5, [0, 2]), (6, [0, 3]), (7, [0]), (8, [0, 1]), (9, [0, 2]), (10, [0, 3]), (11, [4]), (12, [1, 0, 5]), (13, [0, 6]), (14, [7, 0, 11]), (15, [12, 0])] [] (by kernel_rfl) (by kernel_rfl) (by kernel_rfl) rfl (fun _ _ _ _ h => h) (fun w' h => ⟨box_at c0_0 h, box_at c0_1 h, box_at c0_2 h, box_at p0 h, box_at p1 h, box_at y1 h, box_at y4 h, box_at v0 h, box_at v1 h⟩) ?_
                          simp only [pickP, pickN, List.getElem?_cons_zero, List.getElem?_cons_succ]
                          iterate 3 (refine' chainP_read _ rfl rfl (fun w' hS' => ?_) ?_; rotate_left; · (simp only [lookP, allP, Act.put, List.getElem?_cons_zero, List.getElem?_cons_succ, List.setIfInBounds_toArray, List.set_cons_zero, List.set_cons_succ]; (try dsimp only at hS'); go_simp; (try with_reducible rfl)))
                          -- 3: move t11
                          refine' chainP_readG (d := (some 90)) _ rfl (fun w' hS' => ?_) ?_; rotate_left
                          · simp only [lookP, allP, Act.put, List.getElem?_cons_zero, List.getElem?_cons_succ, List.setIfInBounds_toArray, List.set_cons_zero, List.set_cons_succ]
                            refine ⟨by kernel_rfl, ?_⟩
                            (try dsimp only at hS')
                            go_simp
                            (try with_reducible rfl)
                          -- 4: call { callee := builtin Builtin.len, args := #[t90], argTypes := #[28] }
                          refine' chainP_readG (d := (some 91)) _ rfl (fun w' hS' => ?_) ?_; rotate_left
                          · simp only [lookP, allP, Act.put, List.getElem?_cons_zero, List.getElem?_cons_succ, List.setIfInBounds_toArray, List.set_cons_zero, List.set_cons_succ]
                            refine ⟨by kernel_rfl, ?_⟩
                            (try dsimp only at hS')
                            go_simp
                            (try with_reducible rfl)
                          -- 5: binOp Bingtr 3 t91 (const (int i64 0)) 3
                          refine' chainP_readG (d := (some 92)) _ rfl (fun w' hS' => ?_) ?_; rotate_left
                          · simp only [lookP, allP, Act.put, List.getElem?_cons_zero, List.getElem?_cons_succ, List.setIfInBounds_toArray, List.set_cons_zero, List.set_cons_succ]
                            refine ⟨by kernel_rfl, ?_⟩
                            (try dsimp only at hS')
                            go_simp
                            (try with_reducible rfl)
                          -- 6: move t92
                          refine' chainP_readG (d := (some 93)) _ rfl (fun w' hS' => ?_) ?_; rotate_left
                          · simp only [lookP, allP, Act.put, List.getElem?_cons_zero, List.getElem?_cons_succ, List.setIfInBounds_toArray, List.set_cons_zero, List.set_cons_succ]
                            refine ⟨by kernel_rfl, ?_⟩
                            (try dsimp only at hS')
                            go_simp
                            (try with_reducible rfl)
                          -- 7: move t11
                          refine' chainP_readG (d := (some 94)) _ rfl (fun w' hS' => ?_) ?_; rotate_left
                          · simp only [lookP, allP, Act.put, List.getElem?_cons_zero, List.getElem?_cons_succ, List.setIfInBounds_toArray, List.set_cons_zero, List.set_cons_succ]
                            refine ⟨by kernel_rfl, ?_⟩
                            (try dsimp only at hS')
                            go_simp
                            (try with_reducible rfl)
                          -- 8: indexAddr 28 t94 (const (int i64 0))
                          refine' chainP_readG (d := (some 95)) _ rfl (fun w' hS' => ?_) ?_; rotate_left
                          · simp only [lookP, allP, Act.put, List.getElem?_cons_zero, List.getElem?_cons_succ, List.setIfInBounds_toArray, List.set_cons_zero, List.set_cons_succ]
                            refine ⟨by kernel_rfl, ?_⟩
                            (try dsimp only at hS')
                            go_simp
                            (try with_reducible rfl)
                          -- 9: load 61 t95
                          refine' chainP_readG (d := (some 96)) _ rfl (fun w' hS' => ?_) ?_; rotate_left
                          · simp only [lookP, allP, Act.put, List.getElem?_cons_zero, List.getElem?_cons_succ, List.setIfInBounds_toArray, List.set_cons_zero, List.set_cons_succ]
                            refine ⟨by kernel_rfl, ?_⟩
                            (try dsimp only at hS')
                            go_simp
                            (try with_reducible rfl)
                          -- 10: call { callee := value (func 62), args := #[t96], argTypes := #[61] }
                          refine chainP_doG (d := (some 97)) (fun v u => DlR u v Y) (fun v w1 w2 hw h => DlR.below h hw) rfl (fun w' hS' => ?_) ?_
                          · simp only [lookP, allP, Act.put, List.getElem?_cons_zero, List.getElem?_cons_succ, List.setIfInBounds_toArray, List.set_cons_zero, List.set_cons_succ]
                            refine ⟨by kernel_rfl, ?_⟩
                            intro K hK
                            go_simp
                            go_at_call 62
                            refine (spec_rShared _ Y _ (DlR.mk ((Hyc.out.below hc).below hS'.1) ((Hys.out.below hc).below hS'.1)) (by have := HYP.out; omega) (by have := HYP.out; omega)).mono ?_
                            rintro e u ⟨⟨x, y, rfl, o1, o2⟩, hq⟩
                            exact hK.out _ _ hq (DlR.mk o1.ints o2.ints)
                          -- 11: load 61 t15
                          refine' chainP_readG (d := (some 98)) _ rfl (fun w' hS' => ?_) ?_; rotate_left
                          · simp only [lookP, allP, Act.put, List.getElem?_cons_zero, List.getElem?_cons_succ, List.setIfInBounds_toArray, List.set_cons_zero, List.set_cons_succ]
                            refine ⟨by kernel_rfl, ?_⟩
                            (try dsimp only at hS')
                            go_simp
                            (try with_reducible rfl)
                          -- 12: call { callee := value (func 33), args := #[t97, t98], argTypes := #[27, 61] }
                          refine chainP_callG (d := (some 99)) (.bool false) rfl (fun w' hS' => ?_) ?_
                          · simp only [lookP, allP, Act.put, List.getElem?_cons_zero, List.getElem?_cons_succ, List.setIfInBounds_toArray, List.set_cons_zero, List.set_cons_succ]
                            intro x10 hx10
                            refine ⟨by kernel_rfl, ?_⟩
                            intro K hK
                            go_simp
                            go_at_call 33
                            refine (spec_rAlike _ _ Y Z _ hx10 (DlR.mk ((Hzc.out.below (HB.out.trans (hc.mono HB.out.size))).below hS'.1) ((Hzs.out.below (HB.out.trans (hc.mono HB.out.size))).below hS'.1))).mono ?_
                            rintro e u ⟨rfl, hq⟩
                            rw [Hhc10.out]
                            exact hK.out _ hq
                          -- 13: unOp Unnot 4 t99
                          refine' chainP_readG (d := (some 100)) _ rfl (fun w' hS' => ?_) ?_; rotate_left
                          · simp only [lookP, allP, Act.put, List.getElem?_cons_zero, List.getElem?_cons_succ, List.setIfInBounds_toArray, List.set_cons_zero, List.set_cons_succ]
                            refine ⟨by kernel_rfl, ?_⟩
                            (try dsimp only at hS')
                            go_simp
                            (try with_reducible rfl)
                          -- 14: pick t93 t100 (const (bool false))
                          refine' chainP_readG (d := (some 101)) _ rfl (fun w' hS' => ?_) ?_; rotate_left
                          · simp only [lookP, allP, Act.put, List.getElem?_cons_zero, List.getElem?_cons_succ, List.setIfInBounds_toArray, List.set_cons_zero, List.set_cons_succ]
                            refine ⟨by kernel_rfl, ?_⟩
                            (try dsimp only at hS')
                            go_simp
                            (try with_reducible rfl)
                          -- 15: pick t89 (const (bool true)) t101
                          refine' chainP_read (d := (some 102)) _ rfl rfl (fun w' hS' => ?_) ?_; rotate_left
                          · simp only [lookP, allP, Act.put, List.getElem?_cons_zero, List.getElem?_cons_succ, List.setIfInBounds_toArray, List.set_cons_zero, List.set_cons_succ]
                            (try dsimp only at hS')
                            go_simp
                            (try with_reducible rfl)
                          refine chainP_nil (fun u7 hS' => ?_)
                          simp only [allP, Act.put, List.setIfInBounds_toArray, List.set_cons_zero, List.set_cons_succ]
                          intro x10 hx10
                          have hq7 := hS'.1
                          clear hS'
                          replace hc := Below.next hc hq7
                          clear hq7 c0_0 c0_1 c0_2 p0 p1 y1 y4 v0 v1
                          obtain ⟨c0_0, c0_1, c0_2, p0, p1, y1, y4, v0, v1⟩ := HCC.out _ hc
                          go_wp2_with fail
                          refine NoPanic.normal ?_
                          have HSQ := Lib.hid (HST.out false HC0.out HAT.out HBN.out (by rw [hc7]; rw [show decide (bn = 0) = true by exact decide_eq_true (by have q := hc8; rw [beq_iff_eq] at q; omega)]; rw [show decide (us.length = 0) = false by exact decide_eq_false (by have q := of_decide_eq_true hc9; have := HUL.out; omega)]; rw [HYY.out, Hhc10.out]; simp))
                          have HRZ := Lib.hid (HRV.out.below hc)
                          have HFZ := Lib.hid (HFV.out.below hc)
                          have HBZ := Lib.hid (HBrV.out.trans (hc.mono HBrV.out.size))
                          have hszz : u3.heap.size ≤ u7.heap.size := HBZ.out.size
                          go_wp2_with (at_builtin; refine RowsI.list_appF rfl _ _ rfl (HRZ.out.below ((Below.refl _ _).alloc (Nat.le_refl _) _)) (HFZ.out.below ((Below.refl _ _).alloc (Nat.le_refl _) _)) (by simp; omega) 1 (.slice oa on oc) rfl (Ints.lit1 _ HKI.out) (by simp) (on + 1) (by have := HOL.out; simp; omega) (by omega) rfl rfl ?_; intro a9 c9 w9 h9 f9 hb9; have HR9 := Lib.hid h9; have HF9 := Lib.hid f9; have HB9 : Hid (Below u3.heap.size u3 w9) := (HBZ.out.trans ((Below.refl _ _).alloc (by omega) _)).trans hb9; clear h9 hb9 f9 c0_0 c0_1 c0_2 p0 p1 y1 y4 v0 v1)
                          go_roundg (lvn - (k + 1))
                          case measure => exact hgk
                          case rel => exact ⟨k + 1, _, _, _, by omega, by go_num, Lib.hid ⟨rfl, rfl, rfl⟩, by unfold Hid; rw [HSQ.out.2.1]; exact HF9.out, by unfold Hid; rw [HSQ.out.1, HSQ.out.2.2]; exact HR9.out, HB9⟩
                        | true =>
                          have Hhc10 := Lib.hid hc10
                          clear hc10
                          try (go_wp2_with fail)
                          refine wp_region_noPanic ?_
                          refine wp_region_P (fun w' => w'.cell? ⟨w.heap.size, 0, none⟩ = some (.int .i64 gr.p) ∧ w'.cell? ⟨w.heap.size, 1, none⟩ = some (.int .i64 gr.q) ∧ w'.cell? ⟨w.heap.size, 2, none⟩ = some (.int .i64 gr.g) ∧ w'.cell? ⟨R1, 0, none⟩ = some ((.slice (some ⟨zcb, zco, none⟩) zcn zcc)) ∧ w'.cell? ⟨R1, 1, none⟩ = some ((.slice zsa zsn zsc)) ∧ w'.cell? ⟨b1, o1 + k, none⟩ = some (.int .i64 X) ∧ w'.cell? ⟨zcb, zco, none⟩ = some (.int .i64 C0) ∧ w'.cell? ⟨db, dq, none⟩ = some ((.slice yca ycn ycc)) ∧ w'.cell? ⟨db, dq + 1, none⟩ = some ((.slice ysa ysn ysc))) 18 [(0, []), (1, [0]), (2, [0]), (3, [0]), (4, [0, 1]), (5, [0, 2]), (6, [0, 3]), (7, [0]), (8, [0, 1]), (9, [0, 2]), (10, [0, 3]), (11, [4]), (12, [1, 0, 5]), (13, [0, 6]), (14, [7, 0, 11]), (15, [12, 0])] [] (by kernel_rfl) (by kernel_rfl) (by kernel_rfl) rfl (fun _ _ _ _ h => h) (fun w' h => ⟨box_at c0_0 h, box_at c0_1 h, box_at c0_2 h, box_at p0 h, box_at p1 h, box_at y1 h, box_at y4 h, box_at v0 h, box_at v1 h⟩) ?_
                          simp only [pickP, pickN, List.getElem?_cons_zero, List.getElem?_cons_succ]
                          iterate 3 (refine' chainP_read _ rfl rfl (fun w' hS' => ?_) ?_; rotate_left; · (simp only [lookP, allP, Act.put, List.getElem?_cons_zero, List.getElem?_cons_succ, List.setIfInBounds_toArray, List.set_cons_zero, List.set_cons_succ]; (try dsimp only at hS'); go_simp; (try with_reducible rfl)))
                          -- 3: move t11
                          refine' chainP_readG (d := (some 90)) _ rfl (fun w' hS' => ?_) ?_; rotate_left
                          · simp only [lookP, allP, Act.put, List.getElem?_cons_zero, List.getElem?_cons_succ, List.setIfInBounds_toArray, List.set_cons_zero, List.set_cons_succ]
                            refine ⟨by kernel_rfl, ?_⟩
                            (try dsimp only at hS')
                            go_simp
                            (try with_reducible rfl)
                          -- 4: call { callee := builtin Builtin.len, args := #[t90], argTypes := #[28] }
                          refine' chainP_readG (d := (some 91)) _ rfl (fun w' hS' => ?_) ?_; rotate_left
                          · simp only [lookP, allP, Act.put, List.getElem?_cons_zero, List.getElem?_cons_succ, List.setIfInBounds_toArray, List.set_cons_zero, List.set_cons_succ]
                            refine ⟨by kernel_rfl, ?_⟩
                            (try dsimp only at hS')
                            go_simp
                            (try with_reducible rfl)
                          -- 5: binOp Bingtr 3 t91 (const (int i64 0)) 3
                          refine' chainP_readG (d := (some 92)) _ rfl (fun w' hS' => ?_) ?_; rotate_left
                          · simp only [lookP, allP, Act.put, List.getElem?_cons_zero, List.getElem?_cons_succ, List.setIfInBounds_toArray, List.set_cons_zero, List.set_cons_succ]
                            refine ⟨by kernel_rfl, ?_⟩
                            (try dsimp only at hS')
                            go_simp
                            (try with_reducible rfl)
                          -- 6: move t92
                          refine' chainP_readG (d := (some 93)) _ rfl (fun w' hS' => ?_) ?_; rotate_left
                          · simp only [lookP, allP, Act.put, List.getElem?_cons_zero, List.getElem?_cons_succ, List.setIfInBounds_toArray, List.set_cons_zero, List.set_cons_succ]
                            refine ⟨by kernel_rfl, ?_⟩
                            (try dsimp only at hS')
                            go_simp
                            (try with_reducible rfl)
                          -- 7: move t11
                          refine' chainP_readG (d := (some 94)) _ rfl (fun w' hS' => ?_) ?_; rotate_left
                          · simp only [lookP, allP, Act.put, List.getElem?_cons_zero, List.getElem?_cons_succ, List.setIfInBounds_toArray, List.set_cons_zero, List.set_cons_succ]
                            refine ⟨by kernel_rfl, ?_⟩
                            (try dsimp only at hS')
                            go_simp
                            (try with_reducible rfl)
                          -- 8: indexAddr 28 t94 (const (int i64 0))
                          refine' chainP_readG (d := (some 95)) _ rfl (fun w' hS' => ?_) ?_; rotate_left
                          · simp only [lookP, allP, Act.put, List.getElem?_cons_zero, List.getElem?_cons_succ, List.setIfInBounds_toArray, List.set_cons_zero, List.set_cons_succ]
                            refine ⟨by kernel_rfl, ?_⟩
                            (try dsimp only at hS')
                            go_simp
                            (try with_reducible rfl)
                          -- 9: load 61 t95
                          refine' chainP_readG (d := (some 96)) _ rfl (fun w' hS' => ?_) ?_; rotate_left
                          · simp only [lookP, allP, Act.put, List.getElem?_cons_zero, List.getElem?_cons_succ, List.setIfInBounds_toArray, List.set_cons_zero, List.set_cons_succ]
                            refine ⟨by kernel_rfl, ?_⟩
                            (try dsimp only at hS')
                            go_simp
                            (try with_reducible rfl)
                          -- 10: call { callee := value (func 62), args := #[t96], argTypes := #[61] }
                          refine chainP_doG (d := (some 97)) (fun v u => DlR u v Y) (fun v w1 w2 hw h => DlR.below h hw) rfl (fun w' hS' => ?_) ?_
                          · simp only [lookP, allP, Act.put, List.getElem?_cons_zero, List.getElem?_cons_succ, List.setIfInBounds_toArray, List.set_cons_zero, List.set_cons_succ]
                            refine ⟨by kernel_rfl, ?_⟩
                            intro K hK
                            go_simp
                            go_at_call 62
                            refine (spec_rShared _ Y _ (DlR.mk ((Hyc.out.below hc).below hS'.1) ((Hys.out.below hc).below hS'.1)) (by have := HYP.out; omega) (by have := HYP.out; omega)).mono ?_
                            rintro e u ⟨⟨x, y, rfl, o1, o2⟩, hq⟩
                            exact hK.out _ _ hq (DlR.mk o1.ints o2.ints)
                          -- 11: load 61 t15
                          refine' chainP_readG (d := (some 98)) _ rfl (fun w' hS' => ?_) ?_; rotate_left
                          · simp only [lookP, allP, Act.put, List.getElem?_cons_zero, List.getElem?_cons_succ, List.setIfInBounds_toArray, List.set_cons_zero, List.set_cons_succ]
                            refine ⟨by kernel_rfl, ?_⟩
                            (try dsimp only at hS')
                            go_simp
                            (try with_reducible rfl)
                          -- 12: call { callee := value (func 33), args := #[t97, t98], argTypes := #[27, 61] }
                          refine chainP_callG (d := (some 99)) (.bool true) rfl (fun w' hS' => ?_) ?_
                          · simp only [lookP, allP, Act.put, List.getElem?_cons_zero, List.getElem?_cons_succ, List.setIfInBounds_toArray, List.set_cons_zero, List.set_cons_succ]
                            intro x10 hx10
                            refine ⟨by kernel_rfl, ?_⟩
                            intro K hK
                            go_simp
                            go_at_call 33
                            refine (spec_rAlike _ _ Y Z _ hx10 (DlR.mk ((Hzc.out.below (HB.out.trans (hc.mono HB.out.size))).below hS'.1) ((Hzs.out.below (HB.out.trans (hc.mono HB.out.size))).below hS'.1))).mono ?_
                            rintro e u ⟨rfl, hq⟩
                            rw [Hhc10.out]
                            exact hK.out _ hq
                          -- 13: unOp Unnot 4 t99
                          refine' chainP_readG (d := (some 100)) _ rfl (fun w' hS' => ?_) ?_; rotate_left
                          · simp only [lookP, allP, Act.put, List.getElem?_cons_zero, List.getElem?_cons_succ, List.setIfInBounds_toArray, List.set_cons_zero, List.set_cons_succ]
                            refine ⟨by kernel_rfl, ?_⟩
                            (try dsimp only at hS')
                            go_simp
                            (try with_reducible rfl)
                          -- 14: pick t93 t100 (const (bool false))
                          refine' chainP_readG (d := (some 101)) _ rfl (fun w' hS' => ?_) ?_; rotate_left
                          · simp only [lookP, allP, Act.put, List.getElem?_cons_zero, List.getElem?_cons_succ, List.setIfInBounds_toArray, List.set_cons_zero, List.set_cons_succ]
                            refine ⟨by kernel_rfl, ?_⟩
                            (try dsimp only at hS')
                            go_simp
                            (try with_reducible rfl)
                          -- 15: pick t89 (const (bool true)) t101
                          refine' chainP_read (d := (some 102)) _ rfl rfl (fun w' hS' => ?_) ?_; rotate_left
                          · simp only [lookP, allP, Act.put, List.getElem?_cons_zero, List.getElem?_cons_succ, List.setIfInBounds_toArray, List.set_cons_zero, List.set_cons_succ]
                            (try dsimp only at hS')
                            go_simp
                            (try with_reducible rfl)
                          refine chainP_nil (fun u7 hS' => ?_)
                          simp only [allP, Act.put, List.setIfInBounds_toArray, List.set_cons_zero, List.set_cons_succ]
                          intro x10 hx10
                          have hq7 := hS'.1
                          clear hS'
                          replace hc := Below.next hc hq7
                          clear hq7 c0_0 c0_1 c0_2 p0 p1 y1 y4 v0 v1
                          obtain ⟨c0_0, c0_1, c0_2, p0, p1, y1, y4, v0, v1⟩ := HCC.out _ hc
                          go_wp2_with fail
                          refine NoPanic.normal ?_
                          have HSQ := Lib.hid (HST.out true HC0.out HAT.out HBN.out (by rw [hc7]; rw [show decide (bn = 0) = true by exact decide_eq_true (by have q := hc8; rw [beq_iff_eq] at q; omega)]; rw [show decide (us.length = 0) = false by exact decide_eq_false (by have q := of_decide_eq_true hc9; have := HUL.out; omega)]; rw [HYY.out, Hhc10.out]; simp))
                          have HRZ := Lib.hid (HRV.out.below hc)
                          have HFZ := Lib.hid (HFV.out.below hc)
                          have HBZ := Lib.hid (HBrV.out.trans (hc.mono HBrV.out.size))
                          have hszz : u3.heap.size ≤ u7.heap.size := HBZ.out.size
                          go_upto_region 12 with (at_builtin; refine wpList_append_For rfl _ _ rfl (b := u7.heap.size) (.slice (some ⟨db, dq, none⟩) un dc) (usD l us) Z rfl rfl (HFZ.out.below ((Below.refl _ _).alloc (Nat.le_refl _) _)) (Hzc.out.below HBS.out) (Hzs.out.below HBS.out) ((BoxN.new u7 [.slice (some ⟨zcb, zco, none⟩) zcn zcc, .slice zsa zsn zsc] 61).cell (i := 0) rfl) ((BoxN.new u7 [.slice (some ⟨zcb, zco, none⟩) zcn zcc, .slice zsa zsn zsc] 61).cell (i := 1) rfl) (by simp; omega) (by rw [usD_len]; have := HUL.out; omega) (un + 1) (by rw [usD_len]; have := HUL.out; omega) ?_; intro a8 c8 w8 f8 hb8 hk8; have HF8 := Lib.hid f8; have hal8 : Below u7.heap.size u7 (u7.alloc (.cells #[.slice (some ⟨zcb, zco, none⟩) zcn zcc, .slice zsa zsn zsc] 61)) := (Below.refl _ _).alloc (Nat.le_refl _) _; have HR8 := Lib.hid ((HRZ.out.below hal8).keep hk8); have HB8 : Hid (Below u3.heap.size u3 w8) := (HBZ.out.trans ((Below.refl _ _).alloc (by omega) _)).trans hb8; clear f8 hb8 hk8 hal8)
                          have hsz8 := HB8.out.size
                          clear c0_0 c0_1 c0_2 p0 p1 y1 y4 v0 v1
                          have y1 := box_at K1.out (HBS.out.trans (HB8.out.mono HBS.out.size))
                          go_wp2_with (at_builtin; refine RowsI.list_appF rfl _ _ rfl (HR8.out.below ((Below.refl _ _).alloc (Nat.le_refl _) _)) (HF8.out.below ((Below.refl _ _).alloc (Nat.le_refl _) _)) (by simp; omega) 0 (.slice xa un xc) rfl (Ints.lit1 _ HXI.out) (by simp) (un + 1) (by rw [usX_len]; have := HUL.out; simp; omega) (by omega) rfl rfl ?_; intro a9 c9 w9 h9 f9 hb9; have HR9 := Lib.hid h9; have HF9 := Lib.hid f9; have HB9 : Hid (Below u3.heap.size u3 w9) := (HB8.out.trans ((Below.refl _ _).alloc (by omega) _)).trans hb9; clear h9 hb9 f9 y1)
                          go_roundg (lvn - (k + 1))
                          case measure => exact hgk
                          case rel => exact ⟨k + 1, _, _, _, by omega, by go_num, Lib.hid ⟨rfl, rfl, rfl⟩, by unfold Hid; rw [HSQ.out.2.1]; exact HF9.out, by unfold Hid; rw [HSQ.out.1, HSQ.out.2.2]; exact HR9.out, HB9⟩
                · obtain rfl : lvn = k := by omega
                  have hb : decide ((lvn : Int) < (lvn : Int)) = false := decide_eq_false (by omega)
                  have hb2 : decide (lvn < lvn) = false := decide_eq_false (by omega)
                  obtain ⟨c0_0, c0_1, c0_2⟩ := cc
                  have HXO := Lib.hid (HR.out.own 0 _ _ rfl).ints
                  have HOI := Lib.hid (HR.out.own 1 _ _ rfl).ints
                  have hlx := HRX.out.lt
                  have HOO := Lib.hid ((HR.out.own 1 _ _ rfl).mono (show w.heap.size + 2 ≤ _ by omega))
                  have HDU := Lib.hid HF.out.rd
                  have HR1 := Lib.hid (HRX.out.below HBr.out)
                  have HUE : Hid (rsU gr cm ix l l.length = us) := by unfold Hid; rw [Elv.out]; exact HUS.out
                  have HOE : Hid (rsO gr cm ix l l.length = os) := by unfold Hid; rw [Elv.out]; exact HOS.out
                  clear HR HBr hlt HF
                  have HBN : Hid (Below w.heap.size w wr) := HBW
                  clear HB HCC
                  (try clear hc)
                  obtain ⟨W, rfl⟩ : ∃ z, z = wr := ⟨_, rfl⟩
                  have HB := HBN
                  clear HBN
                  have hc : Below W.heap.size W W := Below.refl _ _
                  have HCC : Hid (∀ u, Below W.heap.size W u → u.cell? ⟨w.heap.size, 0, none⟩ = some (.int .i64 gr.p) ∧ u.cell? ⟨w.heap.size, 1, none⟩ = some (.int .i64 gr.q) ∧ u.cell? ⟨w.heap.size, 2, none⟩ = some (.int .i64 gr.g)) := fun u h => ⟨box_at c0_0 h, box_at c0_1 h, box_at c0_2 h⟩
                  clear HBW HRX HBS HWS
                  have lr1 : w.heap.size + 1 < W.heap.size := HR1.out.lt
                  cases hc11 : decide ((un : Int) < (cvn : Int)) with
                  | false =>
                    have hcpT : ¬ un < cvn := by have q := of_decide_eq_false hc11; omega
                    have hcnT : decide (un < cvn) = false := decide_eq_false hcpT
                    have HUC : Hid (cvn ≤ un) := by have q := of_decide_eq_false hc11; unfold Hid; omega
                    have HLF : Hid (rsB gr cm ix l = true) := by unfold Hid rsB; rw [HQ.out, HUE.out, decide_eq_true (by have := HUL.out; have := Ecv.out; have := HUC.out; omega)]; rfl
                    have HUCo := HUC.out
                    have hci : (cvn : Int) ≤ (un : Int) := by omega
                    have hcap := HXO.out.capMax
                    have hcap2 : cvn ≤ xc := by omega
                    have hcap3 : (cvn : Int) ≤ (xc : Int) := by omega
                    obtain ⟨hpr, hq20, hq7⟩ := shG_prm HSG.out
                    have HPRM := Lib.hid hpr
                    clear hpr
                    obtain ⟨hrb, hrd⟩ := rs_diff HQ.out (t := cvn) (by rw [HUE.out, HUL.out]; omega)
                    rw [HUE.out] at hrb hrd
                    have HRB : Hid (∀ y ∈ rsX ix us cvn, 0 ≤ y ∧ y ≤ 1000) := fun y hy => by have := hrb y hy; omega
                    have HRD := Lib.hid hrd
                    have HXN : Hid ((rsX ix us cvn).length ≤ 900) := by unfold Hid; rw [rsX_len]; omega
                    clear hrb hrd
                    have HKN : Hid (cvn ≤ un) := HUC
                    have HXT := Lib.hid (HXO.out.take HUC.out)
                    rw [usX_take ix us (by have := HUL.out; omega)] at HXT
                    try (go_wp2_with fail)
                    refine wp_region_noPanic ?_
                    refine wp_region_P (fun w' => w'.cell? ⟨w.heap.size, 0, none⟩ = some (.int .i64 gr.p) ∧ w'.cell? ⟨w.heap.size, 1, none⟩ = some (.int .i64 gr.q) ∧ w'.cell? ⟨w.heap.size, 2, none⟩ = some (.int .i64 gr.g)) 9 [(0, []), (1, [0]), (2, []), (3, []), (4, [1, 0]), (5, [3, 0])] [6] (by kernel_rfl) (by kernel_rfl) (by kernel_rfl) rfl (fun _ _ _ _ h => h) (fun w' h => ⟨box_at c0_0 h, box_at c0_1 h, box_at c0_2 h⟩) ?_
                    simp only [pickP, pickN, List.getElem?_cons_zero, List.getElem?_cons_succ]
                    iterate 5 (refine' chainP_read _ rfl rfl (fun w' hS' => ?_) ?_; rotate_left; · (simp only [lookP, allP, Act.put, List.getElem?_cons_zero, List.getElem?_cons_succ, List.setIfInBounds_toArray, List.set_cons_zero, List.set_cons_succ]; (try dsimp only at hS'); go_simp; (try with_reducible rfl)))
                    -- 5: call { callee := value (func 63), args := #[t127, t130, const (int i64 0)], argTypes := #[3, 25, 3] }
                    refine chainP_do (d := (some 131)) (fun v u => Ints u v (lagL gr.q (rsX ix us cvn) 0)) (fun v w1 w2 hw h => Ints.below h hw) rfl rfl (fun w' hS' => ?_) ?_
                    · simp only [lookP, allP, Act.put, List.getElem?_cons_zero, List.getElem?_cons_succ, List.setIfInBounds_toArray, List.set_cons_zero, List.set_cons_succ]
                      intro K hK
                      go_simp
                      go_at_call 63
                      refine (spec_yLagrange gr.q _ (rsX ix us cvn) 0 _ HPRM.out hq20 ((HXT.out.below hc).below hS'.1) HXN.out HRB.out HRD.out ⟨by decide, by decide⟩).mono ?_
                      rintro e u ⟨⟨vm, rfl, hom⟩, hq⟩
                      exact hK.out _ _ hq hom.ints
                    refine chainP_nil (fun u6 hS' => ?_)
                    simp only [allP, Act.put, List.setIfInBounds_toArray, List.set_cons_zero, List.set_cons_succ]
                    intro x5 hx5
                    have hq6 := hS'.1
                    clear hS'
                    replace hc := Below.next hc hq6
                    clear hq6 c0_0 c0_1 c0_2
                    obtain ⟨c0_0, c0_1, c0_2⟩ := HCC.out _ hc
                    go_wp2_with fail
                    refine NoPanic.normal ?_
                    obtain ⟨ma, mn, mc, rfl⟩ := hx5.shape
                    obtain rfl : cvn = mn := by have h := hx5.len; rw [lagL_len, rsX_len] at h; omega
                    have HLN : Hid ((lagL gr.q (rsX ix us cvn) 0).length = cvn) := by unfold Hid; rw [lagL_len, rsX_len]
                    have HLB := Lib.hid (lagL_bd (show 0 < gr.q by omega) (rsX ix us cvn) 0)
                    have HLM : Hid (rsM gr cm ix l = lagL gr.q (rsX ix us cvn) 0) := by unfold Hid rsM; rw [HUE.out, Ecv.out]
                    obtain ⟨lam, hlam⟩ : ∃ z, lagL gr.q (rsX ix us cvn) 0 = z := ⟨_, rfl⟩
                    rw [hlam] at hx5 HLN HLB HLM
                    have HLA := Lib.hid hx5
                    clear hx5 hlam
                    have HDW := Lib.hid (HDU.out.below hc)
                    have HOW := Lib.hid (HOO.out.below hc)
                    have HOJ := Lib.hid (HOI.out.below hc)
                    replace HR1 := Lib.hid (HR1.out.below hc)
                    have HBN9 := Lib.hid (HB.out.trans (hc.mono HB.out.size))
                    clear HXT HXO HDU HOO HOI HRB HRD HXN
                    have HBN : Hid (Below w.heap.size w u6) := HBN9.out
                    clear HB HCC
                    (try clear hc)
                    obtain ⟨W, rfl⟩ : ∃ z, z = u6 := ⟨_, rfl⟩
                    have HB := HBN
                    clear HBN
                    have hc : Below W.heap.size W W := Below.refl _ _
                    have HCC : Hid (∀ u, Below W.heap.size W u → u.cell? ⟨w.heap.size, 0, none⟩ = some (.int .i64 gr.p) ∧ u.cell? ⟨w.heap.size, 1, none⟩ = some (.int .i64 gr.q) ∧ u.cell? ⟨w.heap.size, 2, none⟩ = some (.int .i64 gr.g)) := fun u h => ⟨box_at c0_0 h, box_at c0_1 h, box_at c0_2 h⟩
                    clear HBN9
                    have lr2 : w.heap.size + 1 < W.heap.size := HR1.out.lt
                    obtain ⟨db, dq, yca, ycn, ycc, ysa, ysn, ysc, e, L2, L3, g0, g1⟩ := RdDl.get HDW.out (show 0 < (usD l us).length by rw [usD_len]; have := HUL.out; omega)
                    have e' := e
                    subst e'
                    clear e
                    rw [Nat.zero_mul, Nat.add_zero] at L2 L3
                    rw [← atD_eq] at g0 g1
                    obtain ⟨Y, hY⟩ : ∃ z, atD (usD l us) 0 = z := ⟨_, rfl⟩
                    rw [hY] at g0 g1
                    obtain ⟨hcs, hcl, hyd⟩ := cols_sum HQ.out lam (t := cvn) (by omega) (by rw [HUE.out, HUL.out]; omega) (f := Y) (by rw [HUE.out]; exact hY)
                    rw [HUE.out] at hcs hcl
                    have hyl := (deB_parts hyd).1
                    have hy1 := g0.len
                    have hy2 := g1.len
                    have hy7 : ycn ≤ 7 ∧ ysn ≤ 7 := by omega
                    have HCLN : Hid (∀ k, k < cvn → (atD l (nth us k).toNat).c.length = ycn ∧ (atD l (nth us k).toNat).s.length = ysn) := fun k hk => by have := hcl k hk; omega
                    rw [hy1, hy2] at hcs
                    have HDV : Hid (rsD gr cm ix l = ⟨colC gr l us lam cvn ycn, colV gr l us lam cvn ysn⟩) := by unfold Hid rsD; rw [HUE.out, HLM.out, Ecv.out]; exact hcs
                    clear hY hcs hcl hyd hyl hy1 hy2 g0 g1
                    have KL2 := Lib.hid L2
                    have KL3 := Lib.hid L3
                    clear L2 L3
                    obtain ⟨R9, HR9E⟩ : ∃ r, Hid (r = W.heap.size) := ⟨_, rfl⟩
                    obtain ⟨B4, HB4E⟩ : ∃ r, Hid (r = W.heap.size + 1) := ⟨_, rfl⟩
                    have hr1 : W.heap.size ≤ R9 := by have := HR9E.out; omega
                    have hr3 : R9 < B4 := by have := HB4E.out; have := HR9E.out; omega
                    have hr4 : B4 ≤ R9 + 1 := by have := HB4E.out; have := HR9E.out; omega
                    have bu0 : (0 : Int) < (un : Int) := by omega
                    have hun0 : 0 < un := by omega
                    have v0 := KL2.out
                    have v1 := KL3.out
                    obtain ⟨V, hV⟩ : ∃ V, V = W.alloc (.cells #[.slice none 0 0, .slice none 0 0] 27) := ⟨_, rfl⟩
                    have HX9 : Hid (BoxN V R9 27 [.slice none 0 0, .slice none 0 0]) := by unfold Hid; rw [hV, HR9E.out]; exact BoxN.new W [.slice none 0 0, .slice none 0 0] 27
                    have HBV : Hid (Below W.heap.size W V) := by unfold Hid; rw [hV]; exact (Below.refl _ _).alloc (Nat.le_refl _) _
                    have HO40 : Hid (OwnI V B4 (.slice none 0 0) (colC gr l us lam cvn 0)) := OwnI.nil _ _
                    go_upto_region 19 with fail
                    rw [← hV, ← HR9E.out]
                    clear hV c0_0 c0_1 c0_2 v0 v1
                    obtain ⟨c0_0, c0_1, c0_2⟩ := HCC.out V HBV.out
                    have v0 := box_at KL2.out HBV.out
                    have v1 := box_at KL3.out HBV.out
                    go_wp2_with fail
                    clear c0_0 c0_1 c0_2 v0 v1
                    go_loopg [138] ycn (fun gk iv wr => ∃ (m : Nat) (v' : Value), m + gk = ycn ∧ iv = .int .i64 (m : Int) ∧ Hid (BoxN wr R9 27 [v', .slice none 0 0]) ∧ Hid (OwnI wr B4 v' (colC gr l us lam cvn m)) ∧ Hid (Below W.heap.size W wr))
                    case atStart => exact ⟨0, _, by omega, rfl, HX9, HO40, HBV⟩
                    case round =>
                      obtain ⟨m, v', hmg, rfl, HX2, HOc, HBi⟩ := hrel
                      have hsi := HBi.out.size
                      obtain ⟨ca, cc9, rfl⟩ := HOc.out.shapeN (n := m) (colC_len ..)
                      have HBj : Hid (Below W.heap.size W wr) := HBi.out
                      have cc := HCC.out wr HBj.out
                      by_cases hm : m < ycn
                      · have hgm : ycn - (m + 1) < gk := by omega
                        have hb : decide ((m : Int) < (ycn : Int)) = true := decide_eq_true (by omega)
                        have hb2 : decide (m < ycn) = true := decide_eq_true hm
                        have bm0 : (0 : Int) ≤ (m : Int) := by omega
                        have bm1 : (m : Int) < (ycn : Int) := by omega
                        have hwm : IntKind.i64.wrap ((m : Int) + 1) = (m : Int) + 1 := IntWalk.i64_in _ (by omega)
                        have hdcap := HDW.out.capMax
                        have hdc2 : cvn ≤ dc := by omega
                        have hdc3 : (cvn : Int) ≤ (dc : Int) := by omega
                        have HBD := Lib.hid (HB.out.trans (HBj.out.mono HB.out.size))
                        have HDJ := Lib.hid (HDW.out.below HBj.out)
                        have HLJ := Lib.hid (HLA.out.below HBj.out)
                        have HCJ : Hid (∀ u, Below wr.heap.size wr u → u.cell? ⟨w.heap.size, 0, none⟩ = some (.int .i64 gr.p) ∧ u.cell? ⟨w.heap.size, 1, none⟩ = some (.int .i64 gr.q) ∧ u.cell? ⟨w.heap.size, 2, none⟩ = some (.int .i64 gr.g)) := fun u h => HCC.out u (Below.next HBj.out h)
                        clear cc
                        (try (go_wp2_with fail))
                        obtain ⟨W0, rfl⟩ : ∃ z, z = wr := ⟨_, rfl⟩
                        go_loopg [21, 145] cvn (fun gk xv iv wr => ∃ (k : Nat), k + gk = cvn ∧ iv = .int .i64 (k : Int) ∧ Hid (xv = .int .i64 (rsC gr l us lam m k)) ∧ Hid (Below W0.heap.size W0 wr))
                        case atStart => exact ⟨0, by omega, rfl, Lib.hid rfl, Below.refl _ _⟩
                        case round =>
                          obtain ⟨k, hkg, rfl, HEQ, HBk⟩ := hrel
                          obtain rfl := HEQ.out
                          clear HEQ
                          have HBWk := Lib.hid (HBD.out.trans (HBk.out.mono HBD.out.size))
                          have cc := HCJ.out wr HBk.out
                          by_cases hlt : k < cvn
                          · have hgk : cvn - (k + 1) < gk := by omega
                            have hbk : decide ((k : Int) < (cvn : Int)) = true := decide_eq_true (by omega)
                            have hbk2 : decide (k < cvn) = true := decide_eq_true hlt
                            have bk0 : (0 : Int) ≤ (k : Int) := by omega
                            have bk1 : (k : Int) < (cvn : Int) := by omega
                            have hwk : IntKind.i64.wrap ((k : Int) + 1) = (k : Int) + 1 := IntWalk.i64_in _ (by omega)
                            obtain ⟨bz, oz, zca, zcn, zcc, zsa, zsn, zsc, e, K2, K3, f0, f1⟩ := RdDl.get HDJ.out (show k < (usD l us).length by rw [usD_len]; have := HUL.out; omega)
                            cases e
                            rw [← atD_eq, usD_at l us (by have := HUL.out; omega)] at f0 f1
                            obtain ⟨j, hjl, hju⟩ := HUN.out.2 k (by have := HUL.out; omega)
                            have HDD : Hid (deB gr (atD l (nth us k).toNat) = true) := by unfold Hid; rw [hju, Int.toNat_natCast]; exact HQP.out.2.2.2.2.2 _ (by rw [atD_eq (show j < l.length by have := Elv.out; omega)]; exact List.getElem_mem _)
                            have hzl := HCLN.out k hlt
                            have HSS : Hid (rsC gr l us lam m (k + 1) = mulL gr [rsC gr l us lam m k, powE gr (nth (atD l (nth us k).toNat).c m) (nth lam k)]) := rfl
                            obtain ⟨mb, mo, hq, hx⟩ := HLJ.out.at_ (by omega)
                            have hq' := hq
                            subst hq'
                            clear hq
                            have y1 := hx k hlt
                            clear hx hju
                            have hxb := HLB.out _ (nth_mem' (show k < lam.length by rw [HLN.out]; exact hlt))
                            obtain ⟨Z, hZ⟩ : ∃ z, atD l (nth us k).toNat = z := ⟨_, rfl⟩
                            obtain ⟨XE, hXE⟩ : ∃ z, nth lam k = z := ⟨_, rfl⟩
                            rw [hZ] at HDD f0 f1 hzl HSS
                            rw [hXE] at y1 hxb HSS
                            clear hZ hXE
                            have HDP := Lib.hid (deB_parts HDD.out)
                            have l0 := f0.len
                            have l1 := f1.len
                            obtain ⟨hz1, hz2⟩ := hzl
                            obtain rfl : ycn = zcn := by omega
                            obtain rfl : ysn = zsn := by omega
                            have hmem := nth_mem' (l := Z.c) (k := m) (by omega)
                            have HSX : Hid (Small (nth Z.c m)) := elB_small HG.out (List.all_eq_true.1 HDP.out.2.1 _ hmem)
                            obtain ⟨zb, zo, hzq, hx⟩ := f0.at_ (by omega)
                            have y4 := hx m hm
                            have hzq' := hzq
                            subst hzq'
                            clear hzq hx f0 f1 l0 l1 hz1 hz2
                            have HXC := Lib.hid (rsC_small HG.out l us lam m k)
                            obtain ⟨C, hC⟩ : ∃ z, nth Z.c m = z := ⟨_, rfl⟩
                            rw [hC] at y4 HSX HSS
                            obtain ⟨X, hX⟩ : ∃ z, rsC gr l us lam m k = z := ⟨_, rfl⟩
                            rw [hX] at HXC HSS ⊢
                            clear hX hC hmem
                            have iXE : I64 XE := ⟨by omega, by omega⟩
                            obtain ⟨c0_0, c0_1, c0_2⟩ := cc
                            obtain ⟨R1, hR1⟩ : ∃ r, r = wr.heap.size := ⟨_, rfl⟩
                            obtain ⟨V, hV⟩ : ∃ V, V = wr.alloc (.cells #[.slice (some ⟨zb, zo, none⟩) ycn zcc, .slice zsa ysn zsc] 61) := ⟨_, rfl⟩
                            have hbV : Below wr.heap.size wr V := by rw [hV]; exact (Below.refl _ _).alloc (Nat.le_refl _) _
                            have HP1 : Hid (BoxN V R1 61 [.slice (some ⟨zb, zo, none⟩) ycn zcc, .slice zsa ysn zsc]) := by unfold Hid; rw [hV, hR1]; exact BoxN.new wr _ _
                            have z0 := box_at K2 HBk.out
                            have z1 := box_at K3 HBk.out
                            replace y1 := box_at y1 HBk.out
                            replace y4 := box_at y4 HBk.out
                            clear K2 K3
                            have bk2 : (k : Int) < (un : Int) := by omega
                            go_upto_region 26 with fail
                            rw [← hV, ← hR1]
                            replace c0_0 := box_at c0_0 hbV
                            replace c0_1 := box_at c0_1 hbV
                            replace c0_2 := box_at c0_2 hbV
                            replace y1 := box_at y1 hbV
                            replace y4 := box_at y4 hbV
                            have HBV2 : Hid (Below w.heap.size w V) := HBWk.out.trans (hbV.mono HBWk.out.size)
                            have HBkV := Lib.hid (HBk.out.trans (hbV.mono HBk.out.size))
                            clear hV hbV z0 z1 hR1
                            have p0 := HP1.out.cell (i := 0) rfl
                            have p1 := HP1.out.cell (i := 1) rfl
                            clear HP1
                            have HBN : Hid (Below w.heap.size w V) := HBV2
                            clear HB HCC
                            (try clear hc)
                            obtain ⟨W, rfl⟩ : ∃ z, z = V := ⟨_, rfl⟩
                            have HB := HBN
                            clear HBN
                            have hc : Below W.heap.size W W := Below.refl _ _
                            have HCC : Hid (∀ u, Below W.heap.size W u → u.cell? ⟨w.heap.size, 0, none⟩ = some (.int .i64 gr.p) ∧ u.cell? ⟨w.heap.size, 1, none⟩ = some (.int .i64 gr.q) ∧ u.cell? ⟨w.heap.size, 2, none⟩ = some (.int .i64 gr.g) ∧ u.cell? ⟨R1, 0, none⟩ = some ((.slice (some ⟨zb, zo, none⟩) ycn zcc)) ∧ u.cell? ⟨R1, 1, none⟩ = some ((.slice zsa ysn zsc)) ∧ u.cell? ⟨mb, mo + k, none⟩ = some (.int .i64 XE) ∧ u.cell? ⟨zb, zo + m, none⟩ = some (.int .i64 C)) := fun u h => ⟨box_at c0_0 h, box_at c0_1 h, box_at c0_2 h, box_at p0 h, box_at p1 h, box_at y1 h, box_at y4 h⟩
                            clear HBV2 HBWk
                            try (go_wp2_with fail)
                            refine wp_region_noPanic ?_
                            refine wp_region_P (fun w' => w'.cell? ⟨w.heap.size, 0, none⟩ = some (.int .i64 gr.p) ∧ w'.cell? ⟨w.heap.size, 1, none⟩ = some (.int .i64 gr.q) ∧ w'.cell? ⟨w.heap.size, 2, none⟩ = some (.int .i64 gr.g) ∧ w'.cell? ⟨R1, 0, none⟩ = some ((.slice (some ⟨zb, zo, none⟩) ycn zcc)) ∧ w'.cell? ⟨R1, 1, none⟩ = some ((.slice zsa ysn zsc)) ∧ w'.cell? ⟨mb, mo + k, none⟩ = some (.int .i64 XE) ∧ w'.cell? ⟨zb, zo + m, none⟩ = some (.int .i64 C)) 18 [(0, []), (1, []), (2, []), (3, []), (4, [0]), (5, []), (6, [1, 0]), (7, [0]), (8, []), (9, []), (10, [1, 0]), (11, [0]), (12, [9, 4, 0]), (13, [11, 0]), (14, [13, 0]), (15, [0])] [] (by kernel_rfl) (by kernel_rfl) (by kernel_rfl) rfl (fun _ _ _ _ h => h) (fun w' h => ⟨box_at c0_0 h, box_at c0_1 h, box_at c0_2 h, box_at p0 h, box_at p1 h, box_at y1 h, box_at y4 h⟩) ?_
                            simp only [pickP, pickN, List.getElem?_cons_zero, List.getElem?_cons_succ]
                            iterate 12 (refine' chainP_read _ rfl rfl (fun w' hS' => ?_) ?_; rotate_left; · (simp only [lookP, allP, Act.put, List.getElem?_cons_zero, List.getElem?_cons_succ, List.setIfInBounds_toArray, List.set_cons_zero, List.set_cons_succ]; (try dsimp only at hS'); go_simp; (try with_reducible rfl)))
                            -- 12: call { callee := value (func 65), args := #[t152, t157, t161], argTypes := #[24, 3, 3] }
                            refine chainP_call (d := (some 162)) (.int .i64 (powE gr C XE)) rfl rfl (fun w' hS' => ?_) ?_
                            · simp only [lookP, allP, Act.put, List.getElem?_cons_zero, List.getElem?_cons_succ, List.setIfInBounds_toArray, List.set_cons_zero, List.set_cons_succ]
                              intro K hK
                              go_simp
                              go_at_call 65
                              refine (spec_gExp gr C XE _ HG.out HSX.out iXE).mono ?_
                              rintro e u ⟨rfl, hq⟩
                              exact hK.out _ hq
                            -- 13: buildSlice 25 2 #[(0, t151), (1, t162)]
                            refine chainP_do (d := (some 163)) (fun v w => Ints w v [X, powE gr C XE]) (fun v w w' hb h => Ints.below h hb) rfl rfl (fun w' hS' => ?_) ?_
                            · simp only [lookP, allP, Act.put, List.getElem?_cons_zero, List.getElem?_cons_succ, List.setIfInBounds_toArray, List.set_cons_zero, List.set_cons_succ]
                              intro K hK
                              go_simp
                              refine hK.out _ _ ((Below.refl _ _).alloc (Nat.le_refl _) _) ?_
                              exact (OwnI.lit (B := w'.heap.size) w' (Nat.le_refl _) (l := [X, powE gr C XE]) (AllI64.cons (small_64 HXC.out) (AllI64.cons (small_64 (powE_small HG.out _ _)) AllI64.nil)) rfl (by simp [maxLen]) 2 rfl).ints
                            -- 14: call { callee := value (func 64), args := #[t150, t163], argTypes := #[24, 25] }
                            refine chainP_call (d := (some 164)) (.int .i64 (mulL gr [X, powE gr C XE])) rfl rfl (fun w' hS' => ?_) ?_
                            · simp only [lookP, allP, Act.put, List.getElem?_cons_zero, List.getElem?_cons_succ, List.setIfInBounds_toArray, List.set_cons_zero, List.set_cons_succ]
                              intro x13 hx13
                              intro K hK
                              go_simp
                              go_at_call 64
                              refine (spec_gMul gr _ [X, powE gr C XE] _ HG.out hx13 (AllSmall.cons HXC.out (AllSmall.cons (powE_small HG.out _ _) AllSmall.nil))).mono ?_
                              rintro e u ⟨rfl, hq⟩
                              exact hK.out _ hq
                            -- 15: assign t164
                            refine' chainP_read (d := (some 21)) _ rfl rfl (fun w' hS' => ?_) ?_; rotate_left
                            · simp only [lookP, allP, Act.put, List.getElem?_cons_zero, List.getElem?_cons_succ, List.setIfInBounds_toArray, List.set_cons_zero, List.set_cons_succ]
                              (try dsimp only at hS')
                              go_simp
                              (try with_reducible rfl)
                            refine chainP_nil (fun u7 hS' => ?_)
                            simp only [allP, Act.put, List.setIfInBounds_toArray, List.set_cons_zero, List.set_cons_succ]
                            intro x13 hx13
                            have hq7 := hS'.1
                            clear hS'
                            replace hc := Below.next hc hq7
                            clear hq7 c0_0 c0_1 c0_2 p0 p1 y1 y4
                            obtain ⟨c0_0, c0_1, c0_2, p0, p1, y1, y4⟩ := HCC.out _ hc
                            go_wp2_with fail
                            refine NoPanic.normal ?_
                            have HBKU := Lib.hid (HBkV.out.trans (hc.mono HBkV.out.size))
                            go_wp2_with fail
                            clear c0_0 c0_1 c0_2 p0 p1 y1 y4
                            go_roundg (cvn - (k + 1))
                            case measure => exact hgk
                            case rel => exact ⟨k + 1, by omega, by go_num, by unfold Hid; rw [HSS.out], HBKU⟩
                          · obtain rfl : cvn = k := by omega
                            have hbk : decide ((cvn : Int) < (cvn : Int)) = false := decide_eq_false (by omega)
                            have hbk2 : decide (cvn < cvn) = false := decide_eq_false (by omega)
                            have HTS : Hid (colC gr l us lam cvn (m + 1) = colC gr l us lam cvn m ++ [rsC gr l us lam m cvn]) := rfl
                            have HXI : Hid (I64 (rsC gr l us lam m cvn)) := small_64 (rsC_small HG.out l us lam m cvn)
                            obtain ⟨X, hX⟩ : ∃ z, rsC gr l us lam m cvn = z := ⟨_, rfl⟩
                            rw [hX] at HTS HXI ⊢
                            clear hX
                            have HTL : Hid ((colC gr l us lam cvn m).length = m) := colC_len ..
                            obtain ⟨LL, hLL⟩ : ∃ z, colC gr l us lam cvn m = z := ⟨_, rfl⟩
                            rw [hLL] at HOc HTS HTL
                            clear hLL cc
                            have HOu := Lib.hid (HOc.out.below HBk.out)
                            have HX2u := Lib.hid (HX2.out.below HBk.out)
                            have HBu := Lib.hid (HBi.out.trans (HBk.out.mono HBi.out.size))
                            have hszu := HBk.out.size
                            have hlu := HX2u.out.lt
                            have hBu : B4 ≤ wr.heap.size := by omega
                            have HAP := Lib.hid (HOu.out.apart HX2u.out (by decide))
                            have r0 := HX2u.out.cell (i := 0) rfl
                            have r1 := HX2u.out.cell (i := 1) rfl
                            have hal : Below wr.heap.size wr (wr.alloc (.cells #[.int .i64 X] 3)) := (Below.refl _ _).alloc (Nat.le_refl _) _
                            go_wp2_with (at_builtin; refine wpList_append_intsN rfl _ _ rfl B4 (.slice ca m cc9) _ LL [X] rfl (HOu.out.below hal) rfl (Ints.lit1 _ HXI.out) (by rw [HTL.out]; simp; omega) (by simp; omega) (m + 1) (by rw [HTL.out]; rfl) ?_; intro a9 c9 w9 hown9 hgr9; have HO9 := Lib.hid hown9; have HX29 := Lib.hid ((HX2u.out.below hal).grownR hgr9 HAP.out); have hb9 := (HOu.out.below hal).grown hgr9 (by simp; omega); have HB9 := Lib.hid ((HBu.out.trans (hal.mono (by omega))).trans (hb9.mono (by omega))); have hs9 := hb9.size; clear hown9 hgr9 hb9 r0 r1; have r0 := HX29.out.cell (i := 0) rfl; have r1 := HX29.out.cell (i := 1) rfl; have fr := fun j => HX29.out.frozen j; have ltb := HX29.out.lt)
                            (try (go_wp2_with fail))
                            clear r0 r1 fr
                            have NX2 := Lib.hid (HX29.out.set 0 (.slice a9 (m + 1) c9))
                            have NO := Lib.hid (HO9.out.oth (b := R9) (by omega) 0 (.slice a9 (m + 1) c9))
                            have NB := Lib.hid (HB9.out.setCell (p := ⟨R9, 0, none⟩) (by show _ ≤ R9; omega) (.slice a9 (m + 1) c9))
                            go_roundg (ycn - (m + 1))
                            case measure => exact hgm
                            case rel => exact ⟨m + 1, _, by omega, by go_num, NX2, by rw [HTS.out]; exact NO, NB⟩
                      · obtain rfl : ycn = m := by omega
                        have hb : decide ((ycn : Int) < (ycn : Int)) = false := decide_eq_false (by omega)
                        have hb2 : decide (ycn < ycn) = false := decide_eq_false (by omega)
                        obtain ⟨va, hva⟩ : ∃ z, z = ca := ⟨_, rfl⟩
                        obtain ⟨vc, hvc⟩ : ∃ z, z = cc9 := ⟨_, rfl⟩
                        rw [← hva, ← hvc] at HX2 HOc
                        clear hva hvc hm
                        have v0 := box_at KL2.out HBj.out
                        have v1 := box_at KL3.out HBj.out
                        clear cc
                        go_wp2_with fail
                        clear v0 v1
                        obtain ⟨w1, rfl⟩ : ∃ z, z = wr := ⟨_, rfl⟩
                        obtain ⟨B5, HB5E⟩ : ∃ z, Hid (z = w1.heap.size) := ⟨_, rfl⟩
                        have hb51 : B5 ≤ w1.heap.size := Nat.le_of_eq HB5E.out
                        have hb52 : w1.heap.size ≤ B5 := Nat.le_of_eq HB5E.out.symm
                        have hlt1 : R9 < w1.heap.size := HX2.out.lt
                        have HX2s := HX2
                        have HOC := HOc
                        have HBw1 := HBj
                        clear HX2 HOc HBi HBj HX9 HO40 HBV hb hb2
                        go_loopg [178] ysn (fun gk iv wr => ∃ (m : Nat) (v' : Value), m + gk = ysn ∧ iv = .int .i64 (m : Int) ∧ Hid (BoxN wr R9 27 [.slice va ycn vc, v']) ∧ Hid (OwnI wr B5 v' (colV gr l us lam cvn m)) ∧ Hid (Within R9 (R9 + 1) w1 wr))
                        case atStart => exact ⟨0, _, by omega, rfl, HX2s, OwnI.nil _ _, Within.refl _ _ _⟩
                        case round =>
                          obtain ⟨m, v', hmg, rfl, HX2, HOc, HBi⟩ := hrel
                          have hsi := HBi.out.size
                          obtain ⟨ca, cc9, rfl⟩ := HOc.out.shapeN (n := m) (colV_len ..)
                          have HBj : Hid (Below W.heap.size W wr) := HBi.out.belowU HBw1.out (by omega)
                          have cc := HCC.out wr HBj.out
                          by_cases hm : m < ysn
                          · have hgm : ysn - (m + 1) < gk := by omega
                            have hb : decide ((m : Int) < (ysn : Int)) = true := decide_eq_true (by omega)
                            have hb2 : decide (m < ysn) = true := decide_eq_true hm
                            have bm0 : (0 : Int) ≤ (m : Int) := by omega
                            have bm1 : (m : Int) < (ysn : Int) := by omega
                            have hwm : IntKind.i64.wrap ((m : Int) + 1) = (m : Int) + 1 := IntWalk.i64_in _ (by omega)
                            have hdcap := HDW.out.capMax
                            have hdc2 : cvn ≤ dc := by omega
                            have hdc3 : (cvn : Int) ≤ (dc : Int) := by omega
                            have HBD := Lib.hid (HB.out.trans (HBj.out.mono HB.out.size))
                            have HDJ := Lib.hid (HDW.out.below HBj.out)
                            have HLJ := Lib.hid (HLA.out.below HBj.out)
                            have HCJ : Hid (∀ u, Below wr.heap.size wr u → u.cell? ⟨w.heap.size, 0, none⟩ = some (.int .i64 gr.p) ∧ u.cell? ⟨w.heap.size, 1, none⟩ = some (.int .i64 gr.q) ∧ u.cell? ⟨w.heap.size, 2, none⟩ = some (.int .i64 gr.g)) := fun u h => HCC.out u (Below.next HBj.out h)
                            clear cc
                            (try (go_wp2_with fail))
                            obtain ⟨W0, rfl⟩ : ∃ z, z = wr := ⟨_, rfl⟩
                            go_loopg [25, 185] cvn (fun gk xv iv wr => ∃ (k : Nat), k + gk = cvn ∧ iv = .int .i64 (k : Int) ∧ Hid (xv = .int .i64 (rsV gr l us lam m k)) ∧ Hid (Below W0.heap.size W0 wr))
                            case atStart => exact ⟨0, by omega, rfl, Lib.hid rfl, Below.refl _ _⟩
                            case round =>
                              obtain ⟨k, hkg, rfl, HEQ, HBk⟩ := hrel
                              obtain rfl := HEQ.out
                              clear HEQ
                              have HBWk := Lib.hid (HBD.out.trans (HBk.out.mono HBD.out.size))
                              have cc := HCJ.out wr HBk.out
                              by_cases hlt : k < cvn
                              · have hgk : cvn - (k + 1) < gk := by omega
                                have hbk : decide ((k : Int) < (cvn : Int)) = true := decide_eq_true (by omega)
                                have hbk2 : decide (k < cvn) = true := decide_eq_true hlt
                                have bk0 : (0 : Int) ≤ (k : Int) := by omega
                                have bk1 : (k : Int) < (cvn : Int) := by omega
                                have hwk : IntKind.i64.wrap ((k : Int) + 1) = (k : Int) + 1 := IntWalk.i64_in _ (by omega)
                                obtain ⟨bz, oz, zca, zcn, zcc, zsa, zsn, zsc, e, K2, K3, f0, f1⟩ := RdDl.get HDJ.out (show k < (usD l us).length by rw [usD_len]; have := HUL.out; omega)
                                cases e
                                rw [← atD_eq, usD_at l us (by have := HUL.out; omega)] at f0 f1
                                obtain ⟨j, hjl, hju⟩ := HUN.out.2 k (by have := HUL.out; omega)
                                have HDD : Hid (deB gr (atD l (nth us k).toNat) = true) := by unfold Hid; rw [hju, Int.toNat_natCast]; exact HQP.out.2.2.2.2.2 _ (by rw [atD_eq (show j < l.length by have := Elv.out; omega)]; exact List.getElem_mem _)
                                have hzl := HCLN.out k hlt
                                have HSS : Hid (rsV gr l us lam m (k + 1) = (rsV gr l us lam m k + nth (atD l (nth us k).toNat).s m * nth lam k) % gr.q) := rfl
                                obtain ⟨mb, mo, hq, hx⟩ := HLJ.out.at_ (by omega)
                                have hq' := hq
                                subst hq'
                                clear hq
                                have y1 := hx k hlt
                                clear hx hju
                                have hxb := HLB.out _ (nth_mem' (show k < lam.length by rw [HLN.out]; exact hlt))
                                obtain ⟨Z, hZ⟩ : ∃ z, atD l (nth us k).toNat = z := ⟨_, rfl⟩
                                obtain ⟨XE, hXE⟩ : ∃ z, nth lam k = z := ⟨_, rfl⟩
                                rw [hZ] at HDD f0 f1 hzl HSS
                                rw [hXE] at y1 hxb HSS
                                clear hZ hXE
                                have HDP := Lib.hid (deB_parts HDD.out)
                                have l0 := f0.len
                                have l1 := f1.len
                                obtain ⟨hz1, hz2⟩ := hzl
                                obtain rfl : ycn = zcn := by omega
                                obtain rfl : ysn = zsn := by omega
                                have hmem := nth_mem' (l := Z.s) (k := m) (by omega)
                                have HSX : Hid (0 ≤ nth Z.s m ∧ nth Z.s m < gr.q) := by have h := expB_bd (List.all_eq_true.1 HDP.out.2.2 _ hmem); unfold Hid; omega
                                obtain ⟨zb, zo, hzq, hx⟩ := f1.at_ (by omega)
                                have y4 := hx m hm
                                have hzq' := hzq
                                subst hzq'
                                clear hzq hx f0 f1 l0 l1 hz1 hz2
                                have HXC := Lib.hid (rsV_bd (show 0 < gr.q by omega) l us lam m k)
                                obtain ⟨C, hC⟩ : ∃ z, nth Z.s m = z := ⟨_, rfl⟩
                                rw [hC] at y4 HSX HSS
                                obtain ⟨X, hX⟩ : ∃ z, rsV gr l us lam m k = z := ⟨_, rfl⟩
                                rw [hX] at HXC HSS ⊢
                                clear hX hC hmem
                                have iXE : I64 XE := ⟨by omega, by omega⟩
                                have hsx := HSX.out
                                have hxc := HXC.out
                                have hpb := mul2_bd (a := C) (b := XE) (by omega) (by omega) (by omega) (by omega)
                                have hqz : ¬ gr.q = 0 := by omega
                                have ewm : IntKind.i64.wrap (C * XE) = C * XE := IntWalk.i64_in _ (by omega)
                                have ewa : IntKind.i64.wrap (X + C * XE) = X + C * XE := IntWalk.i64_in _ (by omega)
                                have etm : Int.tmod (X + C * XE) gr.q = (X + C * XE) % gr.q := Int.tmod_eq_emod_of_nonneg (by omega)
                                have hz1 := Int.emod_nonneg (X + C * XE) (show gr.q ≠ 0 by omega)
                                have hz2 := Int.emod_lt_of_pos (X + C * XE) (show 0 < gr.q by omega)
                                obtain ⟨XM, hXM⟩ : ∃ z, (X + C * XE) % gr.q = z := ⟨_, rfl⟩
                                rw [hXM] at HSS hz1 hz2 etm
                                have ewz : IntKind.i64.wrap XM = XM := IntWalk.i64_in _ (by omega)
                                clear hXM hpb
                                obtain ⟨c0_0, c0_1, c0_2⟩ := cc
                                obtain ⟨R1, hR1⟩ : ∃ r, r = wr.heap.size := ⟨_, rfl⟩
                                obtain ⟨V, hV⟩ : ∃ V, V = wr.alloc (.cells #[.slice zca ycn zcc, .slice (some ⟨zb, zo, none⟩) ysn zsc] 61) := ⟨_, rfl⟩
                                have hbV : Below wr.heap.size wr V := by rw [hV]; exact (Below.refl _ _).alloc (Nat.le_refl _) _
                                have HP1 : Hid (BoxN V R1 61 [.slice zca ycn zcc, .slice (some ⟨zb, zo, none⟩) ysn zsc]) := by unfold Hid; rw [hV, hR1]; exact BoxN.new wr _ _
                                have z0 := box_at K2 HBk.out
                                have z1 := box_at K3 HBk.out
                                replace y1 := box_at y1 HBk.out
                                replace y4 := box_at y4 HBk.out
                                clear K2 K3
                                have bk2 : (k : Int) < (un : Int) := by omega
                                go_upto_region 37 with fail
                                rw [← hV, ← hR1]
                                replace c0_0 := box_at c0_0 hbV
                                replace c0_1 := box_at c0_1 hbV
                                replace c0_2 := box_at c0_2 hbV
                                replace y1 := box_at y1 hbV
                                replace y4 := box_at y4 hbV
                                have HBV2 : Hid (Below w.heap.size w V) := HBWk.out.trans (hbV.mono HBWk.out.size)
                                have HBkV := Lib.hid (HBk.out.trans (hbV.mono HBk.out.size))
                                clear hV hbV z0 z1 hR1
                                have p0 := HP1.out.cell (i := 0) rfl
                                have p1 := HP1.out.cell (i := 1) rfl
                                clear HP1
                                have HBN : Hid (Below w.heap.size w V) := HBV2
                                clear HB HCC
                                (try clear hc)
                                obtain ⟨W, rfl⟩ : ∃ z, z = V := ⟨_, rfl⟩
                                have HB := HBN
                                clear HBN
                                have hc : Below W.heap.size W W := Below.refl _ _
                                have HCC : Hid (∀ u, Below W.heap.size W u → u.cell? ⟨w.heap.size, 0, none⟩ = some (.int .i64 gr.p) ∧ u.cell? ⟨w.heap.size, 1, none⟩ = some (.int .i64 gr.q) ∧ u.cell? ⟨w.heap.size, 2, none⟩ = some (.int .i64 gr.g) ∧ u.cell? ⟨R1, 0, none⟩ = some ((.slice zca ycn zcc)) ∧ u.cell? ⟨R1, 1, none⟩ = some ((.slice (some ⟨zb, zo, none⟩) ysn zsc)) ∧ u.cell? ⟨mb, mo + k, none⟩ = some (.int .i64 XE) ∧ u.cell? ⟨zb, zo + m, none⟩ = some (.int .i64 C)) := fun u h => ⟨box_at c0_0 h, box_at c0_1 h, box_at c0_2 h, box_at p0 h, box_at p1 h, box_at y1 h, box_at y4 h⟩
                                clear HBV2 HBWk
                                try (go_wp2_with fail)
                                refine wp_region_noPanic ?_
                                refine wp_region_P (fun w' => w'.cell? ⟨w.heap.size, 0, none⟩ = some (.int .i64 gr.p) ∧ w'.cell? ⟨w.heap.size, 1, none⟩ = some (.int .i64 gr.q) ∧ w'.cell? ⟨w.heap.size, 2, none⟩ = some (.int .i64 gr.g) ∧ w'.cell? ⟨R1, 0, none⟩ = some ((.slice zca ycn zcc)) ∧ w'.cell? ⟨R1, 1, none⟩ = some ((.slice (some ⟨zb, zo, none⟩) ysn zsc)) ∧ w'.cell? ⟨mb, mo + k, none⟩ = some (.int .i64 XE) ∧ w'.cell? ⟨zb, zo + m, none⟩ = some (.int .i64 C)) 18 [(0, []), (1, []), (2, [0]), (3, []), (4, [1, 0]), (5, [0]), (6, []), (7, []), (8, [1, 0]), (9, [0]), (10, [4, 0]), (11, [10, 0]), (12, []), (13, [0]), (14, [2, 0]), (15, [0])] [] (by kernel_rfl) (by kernel_rfl) (by kernel_rfl) rfl (fun _ _ _ _ h => h) (fun w' h => ⟨box_at c0_0 h, box_at c0_1 h, box_at c0_2 h, box_at p0 h, box_at p1 h, box_at y1 h, box_at y4 h⟩) ?_
                                simp only [pickP, pickN, List.getElem?_cons_zero, List.getElem?_cons_succ]
                                iterate 16 (refine' chainP_read _ rfl rfl (fun w' hS' => ?_) ?_; rotate_left; · (simp only [lookP, allP, Act.put, List.getElem?_cons_zero, List.getElem?_cons_succ, List.setIfInBounds_toArray, List.set_cons_zero, List.set_cons_succ]; (try dsimp only at hS'); go_simp; (try with_reducible rfl)))
                                refine chainP_nil (fun u7 hS' => ?_)
                                simp only [allP, Act.put, List.setIfInBounds_toArray, List.set_cons_zero, List.set_cons_succ]
                                have hq7 := hS'.1
                                clear hS'
                                replace hc := Below.next hc hq7
                                clear hq7 c0_0 c0_1 c0_2 p0 p1 y1 y4
                                obtain ⟨c0_0, c0_1, c0_2, p0, p1, y1, y4⟩ := HCC.out _ hc
                                go_wp2_with fail
                                refine NoPanic.normal ?_
                                have HBKU := Lib.hid (HBkV.out.trans (hc.mono HBkV.out.size))
                                go_wp2_with fail
                                clear c0_0 c0_1 c0_2 p0 p1 y1 y4
                                go_roundg (cvn - (k + 1))
                                case measure => exact hgk
                                case rel => exact ⟨k + 1, by omega, by go_num, by unfold Hid; rw [HSS.out], HBKU⟩
                              · obtain rfl : cvn = k := by omega
                                have hbk : decide ((cvn : Int) < (cvn : Int)) = false := decide_eq_false (by omega)
                                have hbk2 : decide (cvn < cvn) = false := decide_eq_false (by omega)
                                have HTS : Hid (colV gr l us lam cvn (m + 1) = colV gr l us lam cvn m ++ [rsV gr l us lam m cvn]) := rfl
                                have HXI : Hid (I64 (rsV gr l us lam m cvn)) := by have h := rsV_bd (show 0 < gr.q by omega) l us lam m cvn; exact ⟨by omega, by omega⟩
                                obtain ⟨X, hX⟩ : ∃ z, rsV gr l us lam m cvn = z := ⟨_, rfl⟩
                                rw [hX] at HTS HXI ⊢
                                clear hX
                                have HTL : Hid ((colV gr l us lam cvn m).length = m) := colV_len ..
                                obtain ⟨LL, hLL⟩ : ∃ z, colV gr l us lam cvn m = z := ⟨_, rfl⟩
                                rw [hLL] at HOc HTS HTL
                                clear hLL cc
                                have HOu := Lib.hid (HOc.out.below HBk.out)
                                have HX2u := Lib.hid (HX2.out.below HBk.out)
                                have HBu := Lib.hid (HBi.out.trans (Within.of_below HBk.out))
                                have hszu := HBk.out.size
                                have hlu := HX2u.out.lt
                                have hBu : B5 ≤ wr.heap.size := by omega
                                have HAP := Lib.hid (HOu.out.apart HX2u.out (by decide))
                                have r0 := HX2u.out.cell (i := 0) rfl
                                have r1 := HX2u.out.cell (i := 1) rfl
                                have hal : Below wr.heap.size wr (wr.alloc (.cells #[.int .i64 X] 3)) := (Below.refl _ _).alloc (Nat.le_refl _) _
                                go_wp2_with (at_builtin; refine wpList_append_intsN rfl _ _ rfl B5 (.slice ca m cc9) _ LL [X] rfl (HOu.out.below hal) rfl (Ints.lit1 _ HXI.out) (by rw [HTL.out]; simp; omega) (by simp; omega) (m + 1) (by rw [HTL.out]; rfl) ?_; intro a9 c9 w9 hown9 hgr9; have HO9 := Lib.hid hown9; have HX29 := Lib.hid ((HX2u.out.below hal).grownR hgr9 HAP.out); have hb9 := (HOu.out.below hal).grown hgr9 (by simp; omega); have HB9 := Lib.hid ((HBu.out.trans (Within.of_below hal)).belowStep (hb9.mono (Nat.le_of_eq HB5E.out.symm))); have hs9 := hb9.size; clear hown9 hgr9 hb9 r0 r1; have r0 := HX29.out.cell (i := 0) rfl; have r1 := HX29.out.cell (i := 1) rfl; have fr := fun j => HX29.out.frozen j; have ltb := HX29.out.lt)
                                (try (go_wp2_with fail))
                                clear r0 r1 fr
                                have NX2 := Lib.hid (HX29.out.set 1 (.slice a9 (m + 1) c9))
                                have NO := Lib.hid (HO9.out.oth (b := R9) (by omega) 1 (.slice a9 (m + 1) c9))
                                have NB := Lib.hid (HB9.out.setCell (b := R9) (by omega) (by omega) 1 (.slice a9 (m + 1) c9))
                                go_roundg (ysn - (m + 1))
                                case measure => exact hgm
                                case rel => exact ⟨m + 1, _, by omega, by go_num, NX2, by rw [HTS.out]; exact NO, NB⟩
                          · obtain rfl : ysn = m := by omega
                            have hb : decide ((ysn : Int) < (ysn : Int)) = false := decide_eq_false (by omega)
                            have hb2 : decide (ysn < ysn) = false := decide_eq_false (by omega)
                            clear hm
                            have r0 := HX2.out.cell (i := 0) rfl
                            have r1 := HX2.out.cell (i := 1) rfl
                            have HC9 := Lib.hid (HOC.out.within HBi.out (by omega))
                            have HXF := HX2
                            have HOs := HOc
                            obtain ⟨c0_0, c0_1, c0_2⟩ := cc
                            have HBD := Lib.hid (HB.out.trans (HBj.out.mono HB.out.size))
                            replace HR1 := Lib.hid (HR1.out.below HBj.out)
                            have HOK := Lib.hid (HOW.out.below HBj.out)
                            have ho0 := (HC9.out.mono (show w.heap.size + 2 ≤ B4 by omega))
                            have ho1 := (HOs.out.mono (show w.heap.size + 2 ≤ B5 by omega))
                            have HBN : Hid (Below w.heap.size w wr) := HBD
                            clear HB HCC
                            (try clear hc)
                            obtain ⟨W, rfl⟩ : ∃ z, z = wr := ⟨_, rfl⟩
                            have HB := HBN
                            clear HBN
                            have hc : Below W.heap.size W W := Below.refl _ _
                            have HCC : Hid (∀ u, Below W.heap.size W u → u.cell? ⟨w.heap.size, 0, none⟩ = some (.int .i64 gr.p) ∧ u.cell? ⟨w.heap.size, 1, none⟩ = some (.int .i64 gr.q) ∧ u.cell? ⟨w.heap.size, 2, none⟩ = some (.int .i64 gr.g) ∧ u.cell? ⟨R9, 0, none⟩ = some (.slice va ycn vc) ∧ u.cell? ⟨R9, 1, none⟩ = some (.slice ca ysn cc9)) := fun u h => ⟨box_at c0_0 h, box_at c0_1 h, box_at c0_2 h, box_at r0 h, box_at r1 h⟩
                            clear HBD
                            have HOO := HOK
                            have lr1 : w.heap.size + 1 < W.heap.size := HR1.out.lt
                            have HRE1 := Lib.hid (HR1.out.below hc)
                            clear HR1
                            have HBE := Lib.hid (HB.out.trans (hc.mono HB.out.size))
                            have r1_0 := HRE1.out.cell (i := 0) rfl
                            have r1_1 := HRE1.out.cell (i := 1) rfl
                            have fr1 := fun j => HRE1.out.frozen j
                            go_wp2_with fail
                            have HRF := Lib.hid ((HRE1.out.set 0 (.slice va ycn vc)).set 1 (.slice ca ysn cc9))
                            have HBF := Lib.hid ((HBE.out.setCell (p := ⟨w.heap.size + 1, 0, none⟩) (by show w.heap.size ≤ w.heap.size + 1; omega) (.slice va ycn vc)).setCell (p := ⟨w.heap.size + 1, 1, none⟩) (by show w.heap.size ≤ w.heap.size + 1; omega) (.slice ca ysn cc9))
                            clear r1_0 r1_1 fr1
                            have r1_0 := HRF.out.cell (i := 0) rfl
                            have r1_1 := HRF.out.cell (i := 1) rfl
                            try (go_wp2_with fail)
                            have HVB : Hid (rsB gr cm ix l = true) := by unfold Hid; exact HLF.out
                            have HPR : Hid (rsK gr cm ix l = ⟨colC gr l us lam cvn ycn, colV gr l us lam cvn ysn⟩ ∧ rsL gr cm ix l = os) := by unfold Hid rsK rsL; rw [if_pos HVB.out, if_pos HVB.out, HDV.out, HOE.out]; exact ⟨rfl, rfl⟩
                            refine bodyPost_ret (v := .tuple #[.agg #[.slice va ycn vc, .slice ca ysn cc9], (.slice oa on oc), .bool true]) (by simp [results, Tryz.results16, go_sem, r1_0, r1_1]) rfl ⟨(by rw [HVB.out, HPR.out.1, HPR.out.2]; exact RetDLB.mk ((ho0.oth (b := w.heap.size + 1) (by omega) 0 (.slice va ycn vc)).oth (b := w.heap.size + 1) (by omega) 1 (.slice ca ysn cc9)).ints ((ho1.oth (b := w.heap.size + 1) (by omega) 0 (.slice va ycn vc)).oth (b := w.heap.size + 1) (by omega) 1 (.slice ca ysn cc9)).ints ((HOO.out.oth (b := w.heap.size + 1) (by omega) 0 (.slice va ycn vc)).oth (b := w.heap.size + 1) (by omega) 1 (.slice ca ysn cc9)).ints), HBF.out⟩
                  | true =>
                    have hcpT : un < cvn := by have q := of_decide_eq_true hc11; omega
                    have hcnT : decide (un < cvn) = true := decide_eq_true hcpT
                    have HLF : Hid (rsB gr cm ix l = false) := by have q := of_decide_eq_true hc11; unfold Hid rsB; rw [HUE.out, decide_eq_false (by have := HUL.out; have := Ecv.out; omega), Bool.and_false]
                    have HRE1 := Lib.hid (HR1.out.below hc)
                    clear HR1
                    have HBE := Lib.hid (HB.out.trans (hc.mono HB.out.size))
                    have r1_0 := HRE1.out.cell (i := 0) rfl
                    have r1_1 := HRE1.out.cell (i := 1) rfl
                    have fr1 := fun j => HRE1.out.frozen j
                    go_wp2_with fail
                    have HRF := Lib.hid ((HRE1.out.set 0 ((.slice none 0 0))).set 1 ((.slice none 0 0)))
                    have HBF := Lib.hid ((HBE.out.setCell (p := ⟨w.heap.size + 1, 0, none⟩) (by show w.heap.size ≤ w.heap.size + 1; omega) ((.slice none 0 0))).setCell (p := ⟨w.heap.size + 1, 1, none⟩) (by show w.heap.size ≤ w.heap.size + 1; omega) ((.slice none 0 0)))
                    clear r1_0 r1_1 fr1
                    have r1_0 := HRF.out.cell (i := 0) rfl
                    have r1_1 := HRF.out.cell (i := 1) rfl
                    try (go_wp2_with fail)
                    have HVB : Hid (rsB gr cm ix l = false) := by unfold Hid; exact HLF.out
                    have HPR : Hid (rsK gr cm ix l = ⟨[], []⟩ ∧ rsL gr cm ix l = []) := by unfold Hid rsK rsL; rw [if_neg (by rw [HVB.out]; simp), if_neg (by rw [HVB.out]; simp)]; exact ⟨rfl, rfl⟩
                    refine bodyPost_ret (v := .tuple #[.agg #[(.slice none 0 0), (.slice none 0 0)], .slice none 0 0, .bool false]) (by simp [results, Tryz.results16, go_sem, r1_0, r1_1]) rfl ⟨(by rw [HVB.out, HPR.out.1, HPR.out.2]; exact RetDLB.mk (Ints.nil _) (Ints.nil _) (Ints.nil _)), HBF.out⟩
        | true =>
          have HLT : Hid (decide (l.length = ix.length) = false) := by have q := hc4; rw [bne_iff_ne] at q; have := Eiv.out; have := Elv.out; unfold Hid; exact decide_eq_false (by omega)
          have HRE1 := Lib.hid (HR1.out.below hc)
          clear HR1
          have HBE := Lib.hid (HB.out.trans (hc.mono HB.out.size))
          have r1_0 := HRE1.out.cell (i := 0) rfl
          have r1_1 := HRE1.out.cell (i := 1) rfl
          have fr1 := fun j => HRE1.out.frozen j
          go_wp2_with fail
          have HRF := Lib.hid ((HRE1.out.set 0 ((.slice none 0 0))).set 1 ((.slice none 0 0)))
          have HBF := Lib.hid ((HBE.out.setCell (p := ⟨w.heap.size + 1, 0, none⟩) (by show w.heap.size ≤ w.heap.size + 1; omega) ((.slice none 0 0))).setCell (p := ⟨w.heap.size + 1, 1, none⟩) (by show w.heap.size ≤ w.heap.size + 1; omega) ((.slice none 0 0)))
          clear r1_0 r1_1 fr1
          have r1_0 := HRF.out.cell (i := 0) rfl
          have r1_1 := HRF.out.cell (i := 1) rfl
          try (go_wp2_with fail)
          have HVB : Hid (rsB gr cm ix l = false) := by unfold Hid; simp [rsB, rsQ, Hhc1.out, Hhc2.out, Hhc3.out, HLT.out]
          have HPR : Hid (rsK gr cm ix l = ⟨[], []⟩ ∧ rsL gr cm ix l = []) := by unfold Hid rsK rsL; rw [if_neg (by rw [HVB.out]; simp), if_neg (by rw [HVB.out]; simp)]; exact ⟨rfl, rfl⟩
          refine bodyPost_ret (v := .tuple #[.agg #[(.slice none 0 0), (.slice none 0 0)], .slice none 0 0, .bool false]) (by simp [results, Tryz.results16, go_sem, r1_0, r1_1]) rfl ⟨(by rw [HVB.out, HPR.out.1, HPR.out.2]; exact RetDLB.mk (Ints.nil _) (Ints.nil _) (Ints.nil _)), HBF.out⟩
end Go.Proofs.YtacpnphfopmofaaGreat
