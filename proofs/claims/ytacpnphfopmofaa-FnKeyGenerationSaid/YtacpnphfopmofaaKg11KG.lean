/- Key generation: the outcome, the program's (printed by gen_kg10.py). -/
import Derived.Test.YtacpnphfopmofaaKg3KG
import Derived.Test.YtacpnphfopmofaaKg4KG
import Derived.Test.YtacpnphfopmofaaKg1KG
import Derived.Test.YtacpnphfopmofaaBaKG
namespace Go.Proofs.Ytacpnphfopmofaa
open Go.RowKit
set_option linter.unusedSimpArgs false
set_option linter.unusedVariables false

theorem kq_get {gr : GroupD} {l : List DealingD} {an : List (List Int)} {j : Nat} (h : j < (kqE gr l an).length) : ∃ i : Nat, i < l.length ∧ nth (kqE gr l an) j = (i : Int) + 1 ∧ qdB gr (atD l i) (atR an i) = true ∧ (kmE gr l an).take (j + 1) = (kmE gr l an).take j ++ [mnD gr (atD l i) (atR an i)] := by
  obtain ⟨i, h1, h2, h3⟩ := kql_mem _ (show nth (kqE gr l an) j ∈ kqL gr l an l.length from nth_mem' h)
  have hm : j < (kmE gr l an).length := by unfold kmE; rw [kml_kql]; exact h
  refine ⟨i, h1, h2, h3, ?_⟩
  rw [List.take_succ_eq_append_getElem hm]
  congr 2
  have e : kmE gr l an = (kqE gr l an).map fun y => mnD gr (atD l (y - 1).toNat) (atR an (y - 1).toNat) := kml_map gr l an l.length
  have e2 : (kmE gr l an)[j] = ((kqE gr l an).map fun y => mnD gr (atD l (y - 1).toNat) (atR an (y - 1).toNat))[j]'(by rw [List.length_map]; exact h) := by congr 1
  rw [e2, List.getElem_map, ← nthE h, h2, show ((i : Int) + 1 - 1).toNat = i by omega]
theorem kaR_yes {gr : GroupD} {l : List DealingD} {an : List (List Int)} (h : kaB gr l an = true) : kaR gr l an = kqE gr l an := by unfold kaR; rw [if_pos h]
set_option maxRecDepth 100000 in
set_option maxHeartbeats 8000000 in
theorem impl_CombineKey (gr : GroupD) (lv : Value) (l : List DealingD) (av : Value) (an : List (List Int)) (w : World) (hl : RdR rDealing w lv l) (ha : RdL kInts w av an) :
    Calls Try.prog 35 #[.agg #[.int .i64 gr.p, .int .i64 gr.q, .int .i64 gr.g], lv, av] w fun e w' => RetKG e w' w.heap.size (cbB gr l an) (kgQ gr l an) (kgY gr l an) (kgD gr l an) ∧ Below w.heap.size w w' := by
  obtain ⟨lva, lvn, lvc, rfl⟩ := hl.shape
  have Elv := Lib.hid hl.len
  have Hl := Lib.hid hl
  obtain ⟨ava, avn, avc, rfl⟩ := ha.shape
  have Eav := Lib.hid ha.len
  have Ha := Lib.hid ha
  clear hl ha
  obtain ⟨W, hW⟩ : ∃ W, W = (w.alloc (.cells #[.int .i64 gr.p, .int .i64 gr.q, .int .i64 gr.g] 24)).alloc (.cells #[.slice none 0 0, .int .i64 0, .slice none 0 0, .slice none 0 0] 73) := ⟨_, rfl⟩
  obtain ⟨RB, hRB⟩ : ∃ b, b = w.heap.size + 1 := ⟨_, rfl⟩
  have HB : Hid (Below w.heap.size w W) := by unfold Hid; rw [hW]; (repeat (first | exact Below.refl _ _ | assumption | refine Below.drew ?_ | refine Below.alloc ?_ (by first | (simp; done) | (simp; omega)) _ | refine Below.setCell ?_ (by first | (simp; done) | (simp; omega)) _))
  have HGB : Hid (BoxN W w.heap.size 24 [.int .i64 gr.p, .int .i64 gr.q, .int .i64 gr.g]) := by unfold Hid; rw [hW]; exact (BoxN.new w [.int .i64 gr.p, .int .i64 gr.q, .int .i64 gr.g] _).alloc _
  have HR : Hid (BoxN W RB 73 [.slice none 0 0, .int .i64 0, .slice none 0 0, .slice none 0 0]) := by
    unfold Hid; rw [hW, hRB]
    have h9 := BoxN.new (w.alloc (.cells #[.int .i64 gr.p, .int .i64 gr.q, .int .i64 gr.g] 24)) [.slice none 0 0, .int .i64 0, .slice none 0 0, .slice none 0 0] 73
    rw [show (w.alloc (.cells #[.int .i64 gr.p, .int .i64 gr.q, .int .i64 gr.g] 24)).heap.size = w.heap.size + 1 by simp] at h9
    exact h9
  have hsW : RB < W.heap.size := by rw [hW, hRB]; simp
  have hrb1 : w.heap.size < RB := by omega
  go_enter Try.func35, Try.ntmps35
  go_wp2_with fail
  rw [← hW]
  (try rw [← hRB])
  clear hW hRB
  refine (impl_QualifiedIn gr _ l _ an W (Hl.out.below HB.out) (RdL.below Ha.out HB.out)).mono ?_
  rintro e w1 ⟨⟨v1, rfl, ho⟩, hb1⟩
  have hs1 := hb1.size
  have HB1 := Lib.hid (HB.out.trans (hb1.mono HB.out.size))
  have HR1 := Lib.hid (HR.out.below hb1)
  have HG1 := Lib.hid (HGB.out.below hb1)
  clear hb1
  obtain ⟨q, hq⟩ : ∃ q, kaB gr l an = q := ⟨_, rfl⟩
  rw [hq]
  have HQ := Lib.hid hq
  clear hq
  cases q with
  | false =>
    have HCB := Lib.hid (cbB_ka HQ.out)
    have HNO := Lib.hid (cbB_no HCB.out)
    have r0 := HR1.out.cell (i := 0) rfl
    have r1 := HR1.out.cell (i := 1) rfl
    have r2 := HR1.out.cell (i := 2) rfl
    have r3 := HR1.out.cell (i := 3) rfl
    have fr := fun j => HR1.out.frozen j
    go_wp2_with fail
    have HRF := Lib.hid ((((HR1.out.set 0 (.slice none 0 0)).set 1 (.int .i64 0)).set 2 (.slice none 0 0)).set 3 (.slice none 0 0))
    have HBF := Lib.hid ((((HB1.out.setCell (p := ⟨RB, 0, none⟩) (by show w.heap.size ≤ RB; omega) (.slice none 0 0)).setCell (p := ⟨RB, 1, none⟩) (by show w.heap.size ≤ RB; omega) (.int .i64 0)).setCell (p := ⟨RB, 2, none⟩) (by show w.heap.size ≤ RB; omega) (.slice none 0 0)).setCell (p := ⟨RB, 3, none⟩) (by show w.heap.size ≤ RB; omega) (.slice none 0 0))
    clear r0 r1 r2 r3 fr
    have t0 := HRF.out.cell (i := 0) rfl
    have t1 := HRF.out.cell (i := 1) rfl
    have t2 := HRF.out.cell (i := 2) rfl
    have t3 := HRF.out.cell (i := 3) rfl
    try (go_wp2_with fail)
    have HWF : Hid (Within RB (RB + 1) w1 ((((w1.setCell ⟨RB, 0, none⟩ (.slice none 0 0)).setCell ⟨RB, 1, none⟩ (.int .i64 0)).setCell ⟨RB, 2, none⟩ (.slice none 0 0)).setCell ⟨RB, 3, none⟩ (.slice none 0 0))) := (((((Within.refl RB (RB + 1) w1).setCell (Nat.le_refl _) (by omega) 0 (.slice none 0 0)).setCell (Nat.le_refl _) (by omega) 1 (.int .i64 0)).setCell (Nat.le_refl _) (by omega) 2 (.slice none 0 0)).setCell (Nat.le_refl _) (by omega) 3 (.slice none 0 0))
    refine bodyPost_ret (v := .tuple #[.agg #[.slice none 0 0, .int .i64 0, .slice none 0 0, .slice none 0 0], .bool false]) (by simp [results, Try.results35, go_sem, t0, t1, t2, t3]) rfl ⟨?_, HBF.out⟩
    exact RetKG.zero _ _ HCB.out HNO.out.1 HNO.out.2.1 HNO.out.2.2
  | true =>
  rw [kaR_yes HQ.out] at ho
  have HO := Lib.hid ho
  clear ho
  obtain ⟨qa, qc, hqv⟩ := HO.out.shape
  obtain ⟨qn, hqn⟩ : ∃ n, (kqE gr l an).length = n := ⟨_, rfl⟩
  rw [hqn] at hqv
  subst hqv
  have HQN := Lib.hid hqn
  clear hqn
  by_cases hne : qn = 0
  · subst hne
    have hE : kqE gr l an = [] := List.eq_nil_of_length_eq_zero HQN.out
    have HCB : Hid (cbB gr l an = false) := by unfold Hid cbB; rw [hE]; simp
    have HNO := Lib.hid (cbB_no HCB.out)
    clear hE
    have r0 := HR1.out.cell (i := 0) rfl
    have r1 := HR1.out.cell (i := 1) rfl
    have r2 := HR1.out.cell (i := 2) rfl
    have r3 := HR1.out.cell (i := 3) rfl
    have fr := fun j => HR1.out.frozen j
    go_wp2_with fail
    have HRF := Lib.hid ((((HR1.out.set 0 (.slice none 0 0)).set 1 (.int .i64 0)).set 2 (.slice none 0 0)).set 3 (.slice none 0 0))
    have HBF := Lib.hid ((((HB1.out.setCell (p := ⟨RB, 0, none⟩) (by show w.heap.size ≤ RB; omega) (.slice none 0 0)).setCell (p := ⟨RB, 1, none⟩) (by show w.heap.size ≤ RB; omega) (.int .i64 0)).setCell (p := ⟨RB, 2, none⟩) (by show w.heap.size ≤ RB; omega) (.slice none 0 0)).setCell (p := ⟨RB, 3, none⟩) (by show w.heap.size ≤ RB; omega) (.slice none 0 0))
    clear r0 r1 r2 r3 fr
    have t0 := HRF.out.cell (i := 0) rfl
    have t1 := HRF.out.cell (i := 1) rfl
    have t2 := HRF.out.cell (i := 2) rfl
    have t3 := HRF.out.cell (i := 3) rfl
    try (go_wp2_with fail)
    have HWF : Hid (Within RB (RB + 1) w1 ((((w1.setCell ⟨RB, 0, none⟩ (.slice none 0 0)).setCell ⟨RB, 1, none⟩ (.int .i64 0)).setCell ⟨RB, 2, none⟩ (.slice none 0 0)).setCell ⟨RB, 3, none⟩ (.slice none 0 0))) := (((((Within.refl RB (RB + 1) w1).setCell (Nat.le_refl _) (by omega) 0 (.slice none 0 0)).setCell (Nat.le_refl _) (by omega) 1 (.int .i64 0)).setCell (Nat.le_refl _) (by omega) 2 (.slice none 0 0)).setCell (Nat.le_refl _) (by omega) 3 (.slice none 0 0))
    refine bodyPost_ret (v := .tuple #[.agg #[.slice none 0 0, .int .i64 0, .slice none 0 0, .slice none 0 0], .bool false]) (by simp [results, Try.results35, go_sem, t0, t1, t2, t3]) rfl ⟨?_, HBF.out⟩
    exact RetKG.zero _ _ HCB.out HNO.out.1 HNO.out.2.1 HNO.out.2.2
  have HNE : Hid (kqE gr l an ≠ []) := fun h => by have := HQN.out; rw [h] at this; exact hne this.symm
  have HCB : Hid (cbB gr l an = true) := by unfold Hid cbB; rw [HQ.out, decide_eq_false HNE.out]; rfl
  have HYS := Lib.hid (cbB_yes HCB.out)
  have HSM := Lib.hid (cb_sum HQ.out HNE.out)
  have HF := Lib.hid (cb_facts HQ.out)
  have HG : Hid (OkG gr) := HF.out.1
  have ne1 : ¬ (qn : Int) = 0 := by omega
  have ne2 : ((qn : Int) == 0) = false := by rw [beq_eq_false_iff_ne]; exact ne1
  have hq7 : qn ≤ 7 := by have h1 := kql_len gr l an l.length; have h2 := HQN.out; have h3 := HF.out.2.2.2.2; unfold kqE at h2; omega
  have hlv1 : lvn ≤ 7 := by have := Elv.out; have := HF.out.2.2.2.2; omega
  have hlv0 : 1 ≤ lvn := by have := Elv.out; have := HF.out.2.2.2.1; omega
  have hla1 : avn ≤ lvn := by have := Elv.out; have := Eav.out; have := HF.out.2.2.1; omega
  have hla2 : lvn ≤ avn := by have := Elv.out; have := Eav.out; have := HF.out.2.2.1; omega
  obtain ⟨qb, rfl, hqb1, _, hqc⟩ := HO.out.at_ (by have := HQN.out; omega)
  have HQC : Hid (∀ j, j < qn → w1.cell? ⟨qb, j, none⟩ = some (.int .i64 (nth (kqE gr l an) j))) := fun j hj => (hqc j hj).1
  clear hqc
  obtain ⟨V0, hV0⟩ : ∃ V, V = w1.alloc (.cells #[] 57) := ⟨_, rfl⟩
  have HM0 : Hid (MixDs w V0 w1.heap.size none (.slice (some ⟨w1.heap.size, 0, none⟩) 0 0) ((kmE gr l an).take 0)) := by unfold Hid; rw [hV0]; exact MixDs.lit0 HB1.out (by have := HB1.out.size; omega) (Nat.le_refl _)
  have HF0 : Hid (Below w1.heap.size w1 V0) := by unfold Hid; rw [hV0]; exact (Below.refl _ _).alloc (Nat.le_refl _) _
  go_wp2_with fail
  rw [← hV0]
  clear hV0
  go_loopg [10, 36] qn (fun gk mv iv wr => ∃ (j : Nat) (ma : Option Addr) (mc : Nat), j + gk = qn ∧ iv = .int .i64 (j : Int) ∧ mv = .slice ma j mc ∧ Hid (MixDs w wr w1.heap.size none (.slice ma j mc) ((kmE gr l an).take j)) ∧ Hid (Below w1.heap.size w1 wr))
  case atStart => exact ⟨0, _, _, by omega, rfl, rfl, HM0, HF0⟩
  case round =>
    clear HM0 HF0
    obtain ⟨j, ma, mc, hjg, rfl, rfl, HM, HFr⟩ := hrel
    have HBr := Lib.hid (HB1.out.trans (HFr.out.mono HB1.out.size))
    have hsr := HFr.out.size
    by_cases hlt : j < qn
    · have hgk : qn - (j + 1) < gk := by omega
      have hgk2 : j + 1 + (qn - (j + 1)) = qn := by omega
      obtain ⟨i, hil, hiv, hqd, htk⟩ := kq_get (gr := gr) (l := l) (an := an) (j := j) (by rw [HQN.out]; exact hlt)
      have qj := box_at (HQC.out j hlt) HFr.out
      rw [hiv] at qj
      have HTK := Lib.hid htk
      have HQD := Lib.hid hqd
      have hin : i < lvn := by have := Elv.out; omega
      have HLN : Hid (((kmE gr l an).take j).length = j) := by
        have h1 : (kmE gr l an).length = qn := by unfold kmE; rw [kml_kql]; exact HQN.out
        unfold Hid; rw [List.length_take, h1]; omega
      have HK : Hid (i < l.length) := hil
      have HK2 : Hid (i < an.length) := by unfold Hid; have := Eav.out; omega
      clear hiv hqd htk hil
      obtain ⟨bz, oz, zca, zcn, zcc, zsa, zsn, zsc, e, K2, K3, f0, f1⟩ := RdDl.get Hl.out HK.out
      have e' := e
      subst e'
      clear e
      obtain ⟨ba, oa2, hba, vs, hrv⟩ := Ha.out.at_ (by omega)
      have hba' := hba
      subst hba'
      clear hba
      have hra := hrv i HK2.out
      obtain ⟨vr, hvr⟩ : ∃ z, vs i = z := ⟨_, rfl⟩
      rw [hvr] at hra
      obtain ⟨hcr, hir⟩ := hra
      replace hir : Ints w vr (an[i]'HK2.out) := hir
      clear hvr hrv
      have HDD := Lib.hid (HF.out.2.1 _ (List.getElem_mem HK.out))
      have hat := atD_eq HK.out
      have har := atR_eq HK2.out
      rw [← hat] at HDD f0 f1
      rw [← har] at hir
      clear hat har
      obtain ⟨Z, hZ⟩ : ∃ z, atD l i = z := ⟨_, rfl⟩
      obtain ⟨OW, hOW⟩ : ∃ z, atR an i = z := ⟨_, rfl⟩
      rw [hZ] at HDD f0 f1 HTK HQD
      rw [hOW] at hir HTK HQD
      clear hZ hOW
      obtain ⟨ra, rn, rc, rfl⟩ := hir.shape
      have Hzc := Lib.hid f0
      have Hzs := Lib.hid f1
      have Hrw := Lib.hid hir
      have KR := Lib.hid hcr
      have HDP := Lib.hid (deB_parts HDD.out)
      have hzn1 : zsn ≤ 7 := by have := HDP.out.1; have := f1.len; omega
      have hzn0 : 1 ≤ zsn := by have := HDP.out.1; have := f1.len; omega
      have HZN := Lib.hid f1.len
      have HRN : Hid (rn = (badE gr Z).length) := by
        have h1 := HQD.out
        unfold qdB at h1
        simp only [Bool.and_eq_true, decide_eq_true_iff] at h1
        unfold Hid; rw [← h1.1.2]; exact hir.len.symm
      clear f0 f1 hir hcr
      have b0 : (0 : Int) ≤ (j : Int) := by omega
      have bj1 : (j : Int) < (qn : Int) := by omega
      have bj2 : decide (j < qn) = true := decide_eq_true hlt
      have bi0 : (0 : Int) ≤ (i : Int) := by omega
      have bi1 : (i : Int) < (lvn : Int) := by omega
      have bi2 : (i : Int) < (avn : Int) := by omega
      have wi1 : IntKind.i64.wrap ((i : Int) + 1 - 1) = (i : Int) := by rw [Int.add_sub_cancel]; exact IntWalk.i64_in _ (by omega)
      have wi2 : IntKind.i64.wrap (i : Int) = (i : Int) := IntWalk.i64_in _ (by omega)
      have hwk : IntKind.i64.wrap ((j : Int) + 1) = (j : Int) + 1 := IntWalk.i64_in _ (by omega)
      obtain ⟨R1, hR1⟩ : ∃ r, r = wr.heap.size := ⟨_, rfl⟩
      obtain ⟨V, hV⟩ : ∃ V, V = wr.alloc (.cells #[.slice zca zcn zcc, .slice zsa zsn zsc] 57) := ⟨_, rfl⟩
      have hbV : Below wr.heap.size wr V := by rw [hV]; exact (Below.refl _ _).alloc (Nat.le_refl _) _
      have HP1 : Hid (BoxN V R1 57 [.slice zca zcn zcc, .slice zsa zsn zsc]) := by unfold Hid; rw [hV, hR1]; exact BoxN.new wr [.slice zca zcn zcc, .slice zsa zsn zsc] _
      have z0 := box_at K2 HBr.out
      have z1 := box_at K3 HBr.out
      have hrl1 : wr.heap.size ≤ R1 := Nat.le_of_eq hR1.symm
      have hrl2 : R1 ≤ wr.heap.size := Nat.le_of_eq hR1
      have hsV1 : wr.heap.size < V.heap.size := by rw [hV]; simp
      clear K2 K3
      go_upto_region 9 with fail
      rw [← hV, ← hR1]
      have HBQV := Lib.hid hbV
      have HBV : Hid (Below w.heap.size w V) := HBr.out.trans (hbV.mono HBr.out.size)
      have HFV : Hid (Below w1.heap.size w1 V) := HFr.out.trans (hbV.mono hsr)
      have HGV := Lib.hid (HG1.out.below HFV.out)
      clear hV hbV z0 z1 hR1 qj
      have p1 := HP1.out.cell (i := 1) rfl
      go_wp2_with fail
      clear p1
      refine (slices_Clone _ Z.s V (Hzs.out.below HBV.out) (by rw [HZN.out]; omega)).mono ?_
      rintro e u1 ⟨sv, rfl, hsv, hbu⟩
      obtain ⟨sa, sc, hsh⟩ := hsv.shape
      rw [HZN.out] at hsh
      subst hsh
      obtain ⟨sr, rfl, hsr1, _, _⟩ := hsv.at_ (by rw [HZN.out]; omega)
      have hsr2 := (hsv.lt sr rfl).2
      have HSV := Lib.hid hsv
      have HPu := Lib.hid (HP1.out.below hbu)
      have HGu := Lib.hid (HGV.out.below hbu)
      have HBu : Hid (Below w.heap.size w u1) := HBV.out.trans (hbu.mono HBV.out.size)
      have HFu : Hid (Below w1.heap.size w1 u1) := HFV.out.trans (hbu.mono (by omega))
      have HBQu := Lib.hid (Below.next HBQV.out hbu)
      have hsu := hbu.size
      clear hsv hbu
      have g0 := HGu.out.cell (i := 0) rfl
      have g1 := HGu.out.cell (i := 1) rfl
      have g2 := HGu.out.cell (i := 2) rfl
      have p0 := HPu.out.cell (i := 0) rfl
      have p1 := HPu.out.cell (i := 1) rfl
      go_wp2_with fail
      clear g0 g1 g2 p0 p1
      refine (impl_bad gr _ Z u1 HG.out (DlR.mk (Hzc.out.below HBu.out) (Hzs.out.below HBu.out)) HDD.out).mono ?_
      rintro e u2 ⟨⟨bv, rfl, hbv⟩, hbu⟩
      obtain ⟨ea, ec, hbh⟩ := hbv.shape
      obtain ⟨bn, hbn⟩ : ∃ n, (badE gr Z).length = n := ⟨_, rfl⟩
      rw [hbn] at hbh HRN
      subst hbh
      have HBN := Lib.hid hbn
      have HBV2 := Lib.hid hbv
      have HS2 := Lib.hid (HSV.out.below hbu)
      have HP2 := Lib.hid (HPu.out.below hbu)
      have HB2 : Hid (Below w.heap.size w u2) := HBu.out.trans (hbu.mono HBu.out.size)
      have HF2 : Hid (Below w1.heap.size w1 u2) := HFu.out.trans (hbu.mono (by omega))
      have HBQ2 := Lib.hid (Below.next HBQu.out hbu)
      have hsu2 := hbu.size
      have hrn1 : rn ≤ bn := Nat.le_of_eq HRN.out
      have hrn2 : bn ≤ rn := Nat.le_of_eq HRN.out.symm
      have hbn7 : bn ≤ 7 := by have h1 := bdL_len gr Z Z.s.length; have h2 : (badE gr Z).length ≤ Z.s.length := h1; have h3 := HZN.out; omega
      clear hbn hbv hbu
      obtain ⟨wq, hwq⟩ : ∃ u, u = wr := ⟨_, rfl⟩
      rw [← hwq] at *
      clear hwq
      have HI0 : Hid (OwnI u2 V.heap.size (.slice (some ⟨sr, 0, none⟩) zsn sc) (mnN Z.s (badE gr Z) OW 0)) := HS2
      have HW0 : Hid (Within sr (sr + 1) u2 u2) := Within.refl _ _ _
      have HGK := Lib.hid hgk
      have HGK2 := Lib.hid hgk2
      clear hgk hgk2 hjg
      go_wp2_with fail
      go_loopg [52] bn (fun g2 iv2 wr => ∃ m : Nat, m + g2 = bn ∧ iv2 = .int .i64 (m : Int) ∧ Hid (OwnI wr V.heap.size (.slice (some ⟨sr, 0, none⟩) zsn sc) (mnN Z.s (badE gr Z) OW m)) ∧ Hid (Within sr (sr + 1) u2 wr))
      case atStart => exact ⟨0, by omega, rfl, HI0, HW0⟩
      case round =>
        clear HI0 HW0
        obtain ⟨m, hmg, rfl, HI, HWm⟩ := hrel
        have hszm := HWm.out.size
        by_cases hmt : m < bn
        · have hgm : bn - (m + 1) < gk := by omega
          have hgm2 : m + 1 + (bn - (m + 1)) = bn := by omega
          have hbl : m < (badE gr Z).length := by rw [HBN.out]; exact hmt
          have hxb := bdL_mem _ (show nth (badE gr Z) m ∈ bdL gr Z Z.s.length from nth_mem' hbl)
          obtain ⟨eb, rfl, heb1, _, hec⟩ := HBV2.out.at_ (by rw [HBN.out]; omega)
          have hne1 : eb ≠ sr := by omega
          have xm := within_at HWm.out (hec m hmt).1 (by omega)
          obtain ⟨jx, hjx⟩ : ∃ z : Nat, nth (badE gr Z) m = (z : Int) + 1 := ⟨(nth (badE gr Z) m - 1).toNat, by omega⟩
          rw [hjx] at xm
          have hjl : jx < zsn := by have := HZN.out; omega
          obtain ⟨sb, so, hsa, hcy⟩ := Hrw.out.at_ (by omega)
          have hsa' := hsa
          subst hsa'
          clear hsa
          have hlw := HB2.out.size
          have KY := box_at (hcy m (by omega)) HB2.out
          have kyl : sb < w.heap.size := World.block_lt_of_cell? _ _ (hcy m (by omega))
          have ym := within_at HWm.out KY (.inl (by omega))
          have KRB := box_at KR.out HB2.out
          have krl : ba < w.heap.size := World.block_lt_of_cell? _ _ KR.out
          have rm := within_at HWm.out KRB (.inl (by omega))
          have HMX : Hid (mnN Z.s (badE gr Z) OW (m + 1) = (mnN Z.s (badE gr Z) OW m).set jx (nth OW m)) := by
            unfold Hid
            rw [mnN, hjx, show ((jx : Int) + 1 - 1).toNat = jx by omega]
          have HYI : Hid (I64 (nth OW m)) := nth_64 Hrw.out m
          have HML : Hid ((mnN Z.s (badE gr Z) OW m).length = zsn) := by unfold Hid; rw [mnN_len]; exact HZN.out
          obtain ⟨y, hy⟩ : ∃ z, nth OW m = z := ⟨_, rfl⟩
          rw [hy] at ym HMX HYI
          clear hy hjx hxb hec hcy KY KRB hbl
          obtain ⟨_, e, _, _, hsx⟩ := HI.out.at_ (by rw [HML.out]; omega)
          cases e
          have sx := (hsx jx hjl).1
          have sf := (hsx jx hjl).2
          clear hsx
          have c0 : (0 : Int) ≤ (m : Int) := by omega
          have cm1 : (m : Int) < (bn : Int) := by omega
          have cm2 : decide (m < bn) = true := decide_eq_true hmt
          have cm3 : (m : Int) < (rn : Int) := by omega
          have cj0 : (0 : Int) ≤ (jx : Int) := by omega
          have cj1 : (jx : Int) < (zsn : Int) := by omega
          have wj1 : IntKind.i64.wrap ((jx : Int) + 1 - 1) = (jx : Int) := by rw [Int.add_sub_cancel]; exact IntWalk.i64_in _ (by omega)
          have wj2 : IntKind.i64.wrap (jx : Int) = (jx : Int) := IntWalk.i64_in _ (by omega)
          have hwm : IntKind.i64.wrap ((m : Int) + 1) = (m : Int) + 1 := IntWalk.i64_in _ (by omega)
          go_wp2_with fail
          clear xm ym rm sx sf
          obtain ⟨Y, hY⟩ : ∃ Y, Y = wr.setCell ⟨sr, jx, none⟩ (.int .i64 y) := ⟨_, rfl⟩
          (try rw [← hY])
          have NI : Hid (OwnI Y V.heap.size (.slice (some ⟨sr, 0, none⟩) zsn sc) (mnN Z.s (badE gr Z) OW (m + 1))) := by
            unfold Hid; rw [hY, HMX.out]; exact (HI.out.stored HML.out jx HYI.out).1
          have NW : Hid (Within sr (sr + 1) u2 Y) := by unfold Hid; rw [hY]; exact HWm.out.setCell (Nat.le_refl _) (by omega) jx _
          clear hY
          go_roundg (bn - (m + 1))
          case measure => exact hgm
          case rel => exact ⟨m + 1, hgm2, by go_num, NI, NW⟩
        · obtain rfl : bn = m := by omega
          have cm2 : decide (bn < bn) = false := decide_eq_false (by omega)
          have HMN : Hid (mnN Z.s (badE gr Z) OW bn = (mnD gr Z OW).s) := by unfold Hid mnD; rw [HBN.out]
          rw [HMN.out] at HI
          have HMz : Hid (MixDs w wr w1.heap.size none (.slice ma j mc) ((kmE gr l an).take j)) := HM.out.below (HBQ2.out.trans (HWm.out.below (by omega) (by omega)))
          have HPz := Lib.hid (HP2.out.kept HWm.out (.inl (by omega)))
          have HFz : Hid (Below w1.heap.size w1 wr) := HF2.out.trans (HWm.out.below (by omega) (by omega))
          have HBz : Hid (Below w.heap.size w wr) := HB2.out.trans (HWm.out.below HB2.out.size (by have := HB1.out.size; omega))
          have p0 := HPz.out.cell (i := 0) rfl
          have hal : Below wr.heap.size wr (wr.alloc (.cells #[.slice zca zcn zcc, .slice (some ⟨sr, 0, none⟩) zsn sc] 57)) := (Below.refl _ _).alloc (Nat.le_refl _) _
          have HAL := Lib.hid hal
          clear hal
          go_wp2_with (at_builtin; refine wpList_append_Mix (d := mnD gr Z OW) rfl _ _ rfl (b := wr.heap.size) rfl rfl (HMz.out.below HAL.out) (.inr Hzc.out) (.inl ⟨(HI.out.mono (show w1.heap.size ≤ V.heap.size by omega)).below HAL.out, fun k h => by cases h⟩) (BoxN.new wr [.slice zca zcn zcc, .slice (some ⟨sr, 0, none⟩) zsn sc] 57) (by simp; omega) (by rw [HLN.out]; omega) (j + 1) (by rw [HLN.out]) ?_; intro a9 c9 w9 hm9 hb9 _; have HM9 := Lib.hid hm9; have HB9 := Lib.hid hb9; clear hm9 hb9 p0)
          go_roundg (qn - (j + 1))
          case measure => exact HGK.out
          case rel => exact ⟨j + 1, a9, c9, HGK2.out, by go_num, rfl, by unfold Hid; rw [HTK.out]; exact HM9.out, (HFz.out.trans (HAL.out.mono (by omega))).trans HB9.out⟩
    · obtain rfl : qn = j := by omega
      have bj2 : decide (qn < qn) = false := decide_eq_false (by omega)
      have HTL : Hid ((kmE gr l an).take qn = kmE gr l an) := by
        have h1 : (kmE gr l an).length = qn := by unfold kmE; rw [kml_kql]; exact HQN.out
        unfold Hid; rw [← h1, List.take_length]
      rw [HTL.out] at HM
      have HZ := Lib.hid HM.out.rd
      have HGr := Lib.hid (HG1.out.below HFr.out)
      have HRr := Lib.hid (HR1.out.below HFr.out)
      have HOr := Lib.hid (HO.out.below HFr.out)
      have g0 := HGr.out.cell (i := 0) rfl
      have g1 := HGr.out.cell (i := 1) rfl
      have g2 := HGr.out.cell (i := 2) rfl
      go_wp2_with fail
      clear g0 g1 g2
      refine (impl_sumOf gr _ (kmE gr l an) wr HG.out HZ.out HSM.out.1).mono ?_
      rintro e w2 ⟨⟨x, y, rfl, hox, hoy⟩, hb2⟩
      obtain ⟨xa, xc, hx⟩ := hox.shape
      obtain ⟨ya, yc, hy⟩ := hoy.shape
      obtain ⟨xn, hxn⟩ : ∃ n, (smD gr (kmE gr l an)).c.length = n := ⟨_, rfl⟩
      obtain ⟨yn, hyn⟩ : ∃ n, (smD gr (kmE gr l an)).s.length = n := ⟨_, rfl⟩
      rw [hxn] at hx
      rw [hyn] at hy
      subst hx hy
      have HXN := Lib.hid hxn
      have HOX := Lib.hid hox
      have HOY := Lib.hid hoy
      have HO2 := Lib.hid (HOr.out.below hb2)
      have HR2 := Lib.hid (HRr.out.below hb2)
      have hs2 := hb2.size
      have HB2 := Lib.hid (HBr.out.trans (hb2.mono HBr.out.size))
      clear hxn hyn hox hoy hb2
      have hx1 : 1 ≤ xn := by have := HSM.out.2; have := HXN.out; unfold cbD at *; omega
      obtain ⟨xb, rfl, _, _, hcx⟩ := HOX.out.at_ (by have := HXN.out; omega)
      have kx := (hcx 0 (by omega)).1
      obtain ⟨Y0, hY0⟩ : ∃ z, nth (smD gr (kmE gr l an)).c 0 = z := ⟨_, rfl⟩
      rw [hY0] at kx
      have HY0 := Lib.hid hY0
      have KX := Lib.hid kx
      clear hcx hY0 kx
      obtain ⟨SB, hSB⟩ : ∃ b, b = w2.heap.size := ⟨_, rfl⟩
      obtain ⟨V, hV⟩ : ∃ V, V = w2.alloc (.cells #[.slice (some ⟨xb, 0, none⟩) xn xc, .slice ya yn yc] 57) := ⟨_, rfl⟩
      have hbV : Below w2.heap.size w2 V := by rw [hV]; exact (Below.refl _ _).alloc (Nat.le_refl _) _
      have hsV := hbV.size
      have HSV : Hid (BoxN V SB 57 [.slice (some ⟨xb, 0, none⟩) xn xc, .slice ya yn yc]) := by unfold Hid; rw [hV, hSB]; exact BoxN.new w2 [.slice (some ⟨xb, 0, none⟩) xn xc, .slice ya yn yc] _
      go_upto_region 18 with fail
      rw [← hSB, ← hV]
      have HOV := Lib.hid (HO2.out.below hbV)
      have HXV := Lib.hid (HOX.out.below hbV)
      have HYV := Lib.hid (HOY.out.below hbV)
      have HRV := Lib.hid (HR2.out.below hbV)
      have HBV := Lib.hid (HB2.out.trans (hbV.mono HB2.out.size))
      have k0 := box_at KX.out hbV
      clear hV hSB hbV
      have s0 := HSV.out.cell (i := 0) rfl
      have s1 := HSV.out.cell (i := 1) rfl
      have u0 : (0 : Int) < (xn : Int) := by omega
      have u1 : 0 < xn := by omega
      refine wp_region_noPanic ?_
      refine wp_region_P (fun w' => w'.cell? ⟨SB, 0, none⟩ = some (.slice (some ⟨xb, 0, none⟩) xn xc) ∧ w'.cell? ⟨SB, 1, none⟩ = some (.slice ya yn yc) ∧ w'.cell? ⟨xb, 0, none⟩ = some (.int .i64 Y0)) 14 [(0, []), (1, []), (2, [0]), (3, [0]), (4, [0]), (5, []), (6, [0]), (7, []), (8, [0]), (9, [8, 4, 2, 0])] [10, 11] (by kernel_rfl) (by kernel_rfl) (by kernel_rfl) rfl (fun _ _ _ _ h => h) (fun w' h => ⟨box_at s0 h, box_at s1 h, box_at k0 h⟩) ?_
      simp only [pickP, pickN, List.getElem?_cons_zero, List.getElem?_cons_succ]
      iterate 10 (refine' chainP_read _ rfl rfl (fun w' hS' => ?_) ?_; rotate_left; · (simp only [lookP, allP, Act.put, List.getElem?_cons_zero, List.getElem?_cons_succ, List.setIfInBounds_toArray, List.set_cons_zero, List.set_cons_succ]; (try dsimp only at hS'); go_simp; (try with_reducible rfl)))
      refine chainP_nil (fun u1 hS' => ?_)
      simp only [allP, Act.put, List.setIfInBounds_toArray, List.set_cons_zero, List.set_cons_succ]
      have hV1 := hS'.1
      clear hS' s0 s1 k0
      have HO3 := Lib.hid (HOV.out.below hV1)
      have HX3 := Lib.hid (HXV.out.below hV1)
      have HY3 := Lib.hid (HYV.out.below hV1)
      have HR3 := Lib.hid (HRV.out.below hV1)
      have HB3 := Lib.hid (HBV.out.trans (hV1.mono HBV.out.size))
      have hs3 := hV1.size
      clear hV1
      have r0 := HR3.out.cell (i := 0) rfl
      have r1 := HR3.out.cell (i := 1) rfl
      have r2 := HR3.out.cell (i := 2) rfl
      have r3 := HR3.out.cell (i := 3) rfl
      have fr := fun j => HR3.out.frozen j
      go_wp2_with fail
      refine NoPanic.normal ?_
      (try (go_wp2_with fail))
      have HRF := Lib.hid ((((HR3.out.set 0 (.slice (some ⟨qb, 0, none⟩) qn qc)).set 1 (.int .i64 Y0)).set 2 (.slice (some ⟨xb, 0, none⟩) xn xc)).set 3 (.slice ya yn yc))
      have HBF := Lib.hid ((((HB3.out.setCell (p := ⟨RB, 0, none⟩) (by show w.heap.size ≤ RB; omega) (.slice (some ⟨qb, 0, none⟩) qn qc)).setCell (p := ⟨RB, 1, none⟩) (by show w.heap.size ≤ RB; omega) (.int .i64 Y0)).setCell (p := ⟨RB, 2, none⟩) (by show w.heap.size ≤ RB; omega) (.slice (some ⟨xb, 0, none⟩) xn xc)).setCell (p := ⟨RB, 3, none⟩) (by show w.heap.size ≤ RB; omega) (.slice ya yn yc))
      clear r0 r1 r2 r3 fr
      have t0 := HRF.out.cell (i := 0) rfl
      have t1 := HRF.out.cell (i := 1) rfl
      have t2 := HRF.out.cell (i := 2) rfl
      have t3 := HRF.out.cell (i := 3) rfl
      try (go_wp2_with fail)
      have HWF : Hid (Within RB (RB + 1) u1 ((((u1.setCell ⟨RB, 0, none⟩ (.slice (some ⟨qb, 0, none⟩) qn qc)).setCell ⟨RB, 1, none⟩ (.int .i64 Y0)).setCell ⟨RB, 2, none⟩ (.slice (some ⟨xb, 0, none⟩) xn xc)).setCell ⟨RB, 3, none⟩ (.slice ya yn yc))) := (((((Within.refl RB (RB + 1) u1).setCell (Nat.le_refl _) (by omega) 0 (.slice (some ⟨qb, 0, none⟩) qn qc)).setCell (Nat.le_refl _) (by omega) 1 (.int .i64 Y0)).setCell (Nat.le_refl _) (by omega) 2 (.slice (some ⟨xb, 0, none⟩) xn xc)).setCell (Nat.le_refl _) (by omega) 3 (.slice ya yn yc))
      refine bodyPost_ret (v := .tuple #[.agg #[.slice (some ⟨qb, 0, none⟩) qn qc, .int .i64 Y0, .slice (some ⟨xb, 0, none⟩) xn xc, .slice ya yn yc], .bool true]) (by simp [results, Try.results35, go_sem, t0, t1, t2, t3]) rfl ⟨?_, HBF.out⟩
      have hy : kgY gr l an = Y0 := by rw [HYS.out.2.1]; exact HY0.out
      rw [hy, HYS.out.1, HYS.out.2.2]
      have k : ∀ {v : Value} {l : List Int}, OwnI u1 W.heap.size v l → OwnI ((((u1.setCell ⟨RB, 0, none⟩ (.slice (some ⟨qb, 0, none⟩) qn qc)).setCell ⟨RB, 1, none⟩ (.int .i64 Y0)).setCell ⟨RB, 2, none⟩ (.slice (some ⟨xb, 0, none⟩) xn xc)).setCell ⟨RB, 3, none⟩ (.slice ya yn yc)) w.heap.size v l := fun h => (h.withinR HWF.out (by omega)).mono (by omega)
      exact RetKG.mk HCB.out (k HO3.out) (k (HX3.out.mono (by omega))) (k (HY3.out.mono (by omega)))
end Go.Proofs.Ytacpnphfopmofaa
namespace Go.Proofs.Ytacpnphfopmofaa
open Go.RowKit
set_option linter.unusedSimpArgs false
set_option linter.unusedVariables false

theorem slices_EqualK (v1 v2 : Value) (l1 l2 : List Int) (w : World) (h1 : Ints w v1 l1) (h2 : Ints w v2 l2) :
    Calls Try.prog 127 #[v1, v2] w fun e w' => e = .returned (.bool (decide (l1 = l2))) ∧ Below w.heap.size w w' := by
  refine (slices_Equal v1 v2 l1 l2 w h1 h2).mono ?_
  rintro e w' ⟨h, m, rfl⟩
  exact ⟨h, below_drewN (Below.refl _ _) m⟩
theorem spec_l1SameK (v1 v2 : Value) (l1 l2 : List Int) (w : World) (h1 : Ints w v1 l1) (h2 : Ints w v2 l2) :
    Calls Try.prog 128 #[v1, v2] w fun e w' => e = .returned (.bool (decide (l1 = l2))) ∧ Below w.heap.size w w' := by
  refine (spec_l1Same v1 v2 l1 l2 w h1 h2).mono ?_
  rintro e w' ⟨h, m, rfl⟩
  exact ⟨h, below_drewN (Below.refl _ _) m⟩
/-- what is wrong with an outcome -/
noncomputable def ckE (gr : GroupD) (l : List DealingD) (an : List (List Int)) (q : List Int) (y : Int) (c s : List Int) : Int :=
  if cbB gr l an = true then (if decide (kgQ gr l an = q) = true then (if kgY gr l an = y then (if decide ((kgD gr l an).c = c) = true then (if decide ((kgD gr l an).s = s) = true then 0 else 4) else 3) else 2) else 1) else 0
theorem decide_symm (a b : List Int) : decide (a = b) = decide (b = a) := by
  by_cases h : a = b
  · rw [decide_eq_true h, decide_eq_true h.symm]
  · rw [decide_eq_false h, decide_eq_false (fun e => h e.symm)]
set_option maxRecDepth 100000 in
set_option maxHeartbeats 4000000 in
theorem impl_CheckKeyGen (gr : GroupD) (lv : Value) (l : List DealingD) (av : Value) (an : List (List Int)) (qv : Value) (qs : List Int) (y : Int) (cv : Value) (cs : List Int) (sv : Value) (ss : List Int) (w : World) (hl : RdR rDealing w lv l) (ha : RdL kInts w av an) (hq : Ints w qv qs) (hcc : Ints w cv cs) (hss : Ints w sv ss) :
    Calls Try.prog 38 #[.agg #[.int .i64 gr.p, .int .i64 gr.q, .int .i64 gr.g], lv, av, .agg #[qv, .int .i64 y, cv, sv]] w fun e w' => e = .returned (.tuple #[.int .i64 (ckE gr l an qs y cs ss), .bool (cbB gr l an)]) ∧ Below w.heap.size w w' := by
  have Hl := Lib.hid hl
  have Ha := Lib.hid ha
  have Hq := Lib.hid hq
  have Hc := Lib.hid hcc
  have Hs := Lib.hid hss
  clear hl ha
  obtain ⟨qa, qn, qc, rfl⟩ := hq.shape
  obtain ⟨ca, cn, cc, rfl⟩ := hcc.shape
  obtain ⟨sa, sn, sc, rfl⟩ := hss.shape
  clear hq hcc hss
  obtain ⟨W, hW⟩ : ∃ W, W = (w.alloc (.cells #[.int .i64 gr.p, .int .i64 gr.q, .int .i64 gr.g] 24)).alloc (.cells #[.slice qa qn qc, .int .i64 y, .slice ca cn cc, .slice sa sn sc] 73) := ⟨_, rfl⟩
  obtain ⟨RB, hRB⟩ : ∃ b, b = w.heap.size + 1 := ⟨_, rfl⟩
  have HB : Hid (Below w.heap.size w W) := by unfold Hid; rw [hW]; (repeat (first | exact Below.refl _ _ | assumption | refine Below.drew ?_ | refine Below.alloc ?_ (by first | (simp; done) | (simp; omega)) _ | refine Below.setCell ?_ (by first | (simp; done) | (simp; omega)) _))
  have HR : Hid (BoxN W RB 73 [.slice qa qn qc, .int .i64 y, .slice ca cn cc, .slice sa sn sc]) := by
    unfold Hid; rw [hW, hRB]
    have h9 := BoxN.new (w.alloc (.cells #[.int .i64 gr.p, .int .i64 gr.q, .int .i64 gr.g] 24)) [.slice qa qn qc, .int .i64 y, .slice ca cn cc, .slice sa sn sc] 73
    rw [show (w.alloc (.cells #[.int .i64 gr.p, .int .i64 gr.q, .int .i64 gr.g] 24)).heap.size = w.heap.size + 1 by simp] at h9
    exact h9
  go_enter Try.func38, Try.ntmps38
  go_wp2_with fail
  rw [← hW]
  (try rw [← hRB])
  clear hW hRB
  refine (impl_CombineKey gr _ l _ an W (Hl.out.below HB.out) (RdL.below Ha.out HB.out)).mono ?_
  rintro e w1 ⟨⟨a1, n1, d1, a2, n2, d2, a3, n3, d3, rfl, h1, h2, h3⟩, hb1⟩
  have HB1 := Lib.hid (HB.out.trans (hb1.mono HB.out.size))
  have HR1 := Lib.hid (HR.out.below hb1)
  obtain ⟨Y0, hY0⟩ : ∃ z, kgY gr l an = z := ⟨_, rfl⟩
  rw [hY0]
  obtain ⟨T, hT⟩ : ∃ r, r = w1.heap.size := ⟨_, rfl⟩
  obtain ⟨V, hV⟩ : ∃ V, V = w1.alloc (.cells #[.slice a1 n1 d1, .int .i64 Y0, .slice a2 n2 d2, .slice a3 n3 d3] 73) := ⟨_, rfl⟩
  have hbV : Below w1.heap.size w1 V := by rw [hV]; exact (Below.refl _ _).alloc (Nat.le_refl _) _
  have HT : Hid (BoxN V T 73 [.slice a1 n1 d1, .int .i64 Y0, .slice a2 n2 d2, .slice a3 n3 d3]) := by unfold Hid; rw [hV, hT]; exact BoxN.new w1 [.slice a1 n1 d1, .int .i64 Y0, .slice a2 n2 d2, .slice a3 n3 d3] _
  go_upto_region 2 with fail
  rw [← hT, ← hV]
  have HQ1 := Lib.hid (h1.below hbV).ints
  have HC1 := Lib.hid (h2.below hbV).ints
  have HS1 := Lib.hid (h3.below hbV).ints
  have HBV := Lib.hid (HB1.out.trans (hbV.mono HB1.out.size))
  have HRV := Lib.hid (HR1.out.below hbV)
  have HE : Hid (∀ b, cbB gr l an = b → ckE gr l an qs y cs ss = if b = true then (if decide (kgQ gr l an = qs) = true then (if Y0 = y then (if decide ((kgD gr l an).c = cs) = true then (if decide ((kgD gr l an).s = ss) = true then 0 else 4) else 3) else 2) else 1) else 0) := fun b hb => by unfold ckE; rw [hb, hY0]
  clear hT hV hbV h1 h2 h3 hb1 hY0
  obtain ⟨q, hq⟩ : ∃ q, cbB gr l an = q := ⟨_, rfl⟩
  have HV := Lib.hid (HE.out q hq)
  have HQB := Lib.hid hq
  rw [hq]
  clear hq
  cases q with
  | false =>
    go_wp2_with fail
    go_ret2
    exact ⟨by rw [HV.out, HQB.out]; rfl, HBV.out⟩
  | true =>
  rw [if_pos rfl] at HV
  have t0 := HT.out.cell (i := 0) rfl
  have r0 := HRV.out.cell (i := 0) rfl
  go_wp2_with fail
  clear t0 r0
  refine (slices_EqualK _ _ (kgQ gr l an) qs V (HQ1.out) (Hq.out.below HBV.out)).mono ?_
  rintro e u1 ⟨rfl, hb⟩
  obtain ⟨e1, he1⟩ : ∃ q, decide (kgQ gr l an = qs) = q := ⟨_, rfl⟩
  rw [he1] at HV ⊢
  clear he1
  have HB2 := Lib.hid (HBV.out.trans (hb.mono HBV.out.size))
  have HT2 := Lib.hid (HT.out.below hb)
  have HR2 := Lib.hid (HRV.out.below hb)
  have HC2 := Lib.hid (HC1.out.below hb)
  have HS2 := Lib.hid (HS1.out.below hb)
  clear hb
  cases e1 with
  | false =>
    go_wp2_with fail
    go_ret2
    exact ⟨by rw [HV.out, HQB.out]; rfl, HB2.out⟩
  | true =>
  rw [if_pos rfl] at HV
  have t1 := HT2.out.cell (i := 1) rfl
  have r1 := HR2.out.cell (i := 1) rfl
  have t2 := HT2.out.cell (i := 2) rfl
  have r2 := HR2.out.cell (i := 2) rfl
  by_cases hy : Y0 = y
  rotate_left
  · have hy2 : ¬ y = Y0 := fun e => hy e.symm
    rw [if_neg hy] at HV
    go_wp2_with fail
    go_ret2
    exact ⟨by rw [HV.out, HQB.out]; rfl, HB2.out⟩
  rw [if_pos hy] at HV
  subst hy
  go_wp2_with fail
  clear t1 r1 t2 r2
  refine (slices_EqualK _ _ (kgD gr l an).c cs u1 (HC2.out) (Hc.out.below HB2.out)).mono ?_
  rintro e u2 ⟨rfl, hb⟩
  obtain ⟨e2, he2⟩ : ∃ q, decide ((kgD gr l an).c = cs) = q := ⟨_, rfl⟩
  rw [he2] at HV ⊢
  clear he2
  have HB3 := Lib.hid (HB2.out.trans (hb.mono HB2.out.size))
  have HT3 := Lib.hid (HT2.out.below hb)
  have HR3 := Lib.hid (HR2.out.below hb)
  have HS3 := Lib.hid (HS2.out.below hb)
  clear hb
  cases e2 with
  | false =>
    go_wp2_with fail
    go_ret2
    exact ⟨by rw [HV.out, HQB.out]; rfl, HB3.out⟩
  | true =>
  rw [if_pos rfl] at HV
  have t3 := HT3.out.cell (i := 3) rfl
  have r3 := HR3.out.cell (i := 3) rfl
  go_wp2_with fail
  clear t3 r3
  refine (slices_EqualK _ _ (kgD gr l an).s ss u2 (HS3.out) (Hs.out.below HB3.out)).mono ?_
  rintro e u3 ⟨rfl, hb⟩
  obtain ⟨e3, he3⟩ : ∃ q, decide ((kgD gr l an).s = ss) = q := ⟨_, rfl⟩
  rw [he3] at HV ⊢
  clear he3
  have HB4 := Lib.hid (HB3.out.trans (hb.mono HB3.out.size))
  clear hb
  cases e3 with
  | false =>
    go_wp2_with fail
    go_ret2
    exact ⟨by rw [HV.out, HQB.out]; rfl, HB4.out⟩
  | true =>
    go_wp2_with fail
    go_ret2
    exact ⟨by rw [HV.out, HQB.out]; rfl, HB4.out⟩
set_option maxRecDepth 100000 in
set_option maxHeartbeats 4000000 in
theorem spec_CheckKeyGen (gr : GroupD) (lv : Value) (l : List DealingD) (av : Value) (an : List (List Int)) (qv : Value) (qs : List Int) (y : Int) (cv : Value) (cs : List Int) (sv : Value) (ss : List Int) (w : World) (hl : RdR rDealing w lv l) (ha : RdL kInts w av an) (hq : Ints w qv qs) (hcc : Ints w cv cs) (hss : Ints w sv ss) :
    Calls Try.prog 39 #[.agg #[.int .i64 gr.p, .int .i64 gr.q, .int .i64 gr.g], lv, av, .agg #[qv, .int .i64 y, cv, sv]] w fun e w' => e = .returned (.tuple #[.int .i64 (ckE gr l an qs y cs ss), .bool (cbB gr l an)]) ∧ Below w.heap.size w w' := by
  have Hl := Lib.hid hl
  have Ha := Lib.hid ha
  have Hq := Lib.hid hq
  have Hc := Lib.hid hcc
  have Hs := Lib.hid hss
  clear hl ha
  obtain ⟨qa, qn, qc, rfl⟩ := hq.shape
  obtain ⟨ca, cn, cc, rfl⟩ := hcc.shape
  obtain ⟨sa, sn, sc, rfl⟩ := hss.shape
  clear hq hcc hss
  obtain ⟨W, hW⟩ : ∃ W, W = (w.alloc (.cells #[.int .i64 gr.p, .int .i64 gr.q, .int .i64 gr.g] 24)).alloc (.cells #[.slice qa qn qc, .int .i64 y, .slice ca cn cc, .slice sa sn sc] 73) := ⟨_, rfl⟩
  obtain ⟨RB, hRB⟩ : ∃ b, b = w.heap.size + 1 := ⟨_, rfl⟩
  have HB : Hid (Below w.heap.size w W) := by unfold Hid; rw [hW]; (repeat (first | exact Below.refl _ _ | assumption | refine Below.drew ?_ | refine Below.alloc ?_ (by first | (simp; done) | (simp; omega)) _ | refine Below.setCell ?_ (by first | (simp; done) | (simp; omega)) _))
  have HR : Hid (BoxN W RB 73 [.slice qa qn qc, .int .i64 y, .slice ca cn cc, .slice sa sn sc]) := by
    unfold Hid; rw [hW, hRB]
    have h9 := BoxN.new (w.alloc (.cells #[.int .i64 gr.p, .int .i64 gr.q, .int .i64 gr.g] 24)) [.slice qa qn qc, .int .i64 y, .slice ca cn cc, .slice sa sn sc] 73
    rw [show (w.alloc (.cells #[.int .i64 gr.p, .int .i64 gr.q, .int .i64 gr.g] 24)).heap.size = w.heap.size + 1 by simp] at h9
    exact h9
  go_enter Try.func39, Try.ntmps39
  go_wp2_with fail
  rw [← hW]
  (try rw [← hRB])
  clear hW hRB
  refine (spec_CombineKey gr _ l _ an W (Hl.out.below HB.out) (RdL.below Ha.out HB.out)).mono ?_
  rintro e w1 ⟨⟨a1, n1, d1, a2, n2, d2, a3, n3, d3, rfl, h1, h2, h3⟩, hb1⟩
  have HB1 := Lib.hid (HB.out.trans (hb1.mono HB.out.size))
  have HR1 := Lib.hid (HR.out.below hb1)
  obtain ⟨Y0, hY0⟩ : ∃ z, kgY gr l an = z := ⟨_, rfl⟩
  rw [hY0]
  obtain ⟨T, hT⟩ : ∃ r, r = w1.heap.size := ⟨_, rfl⟩
  obtain ⟨V, hV⟩ : ∃ V, V = w1.alloc (.cells #[.slice a1 n1 d1, .int .i64 Y0, .slice a2 n2 d2, .slice a3 n3 d3] 73) := ⟨_, rfl⟩
  have hbV : Below w1.heap.size w1 V := by rw [hV]; exact (Below.refl _ _).alloc (Nat.le_refl _) _
  have HT : Hid (BoxN V T 73 [.slice a1 n1 d1, .int .i64 Y0, .slice a2 n2 d2, .slice a3 n3 d3]) := by unfold Hid; rw [hV, hT]; exact BoxN.new w1 [.slice a1 n1 d1, .int .i64 Y0, .slice a2 n2 d2, .slice a3 n3 d3] _
  go_upto_region 2 with fail
  rw [← hT, ← hV]
  have HQ1 := Lib.hid (h1.below hbV).ints
  have HC1 := Lib.hid (h2.below hbV).ints
  have HS1 := Lib.hid (h3.below hbV).ints
  have HBV := Lib.hid (HB1.out.trans (hbV.mono HB1.out.size))
  have HRV := Lib.hid (HR1.out.below hbV)
  have HE : Hid (∀ b, cbB gr l an = b → ckE gr l an qs y cs ss = if b = true then (if decide (kgQ gr l an = qs) = true then (if Y0 = y then (if decide ((kgD gr l an).c = cs) = true then (if decide ((kgD gr l an).s = ss) = true then 0 else 4) else 3) else 2) else 1) else 0) := fun b hb => by unfold ckE; rw [hb, hY0]
  clear hT hV hbV h1 h2 h3 hb1 hY0
  obtain ⟨q, hq⟩ : ∃ q, cbB gr l an = q := ⟨_, rfl⟩
  have HV := Lib.hid (HE.out q hq)
  have HQB := Lib.hid hq
  rw [hq]
  clear hq
  cases q with
  | false =>
    go_wp2_with fail
    go_ret2
    exact ⟨by rw [HV.out, HQB.out]; rfl, HBV.out⟩
  | true =>
  rw [if_pos rfl] at HV
  have t0 := HT.out.cell (i := 0) rfl
  have r0 := HRV.out.cell (i := 0) rfl
  go_wp2_with fail
  clear t0 r0
  refine (spec_l1SameK _ _ qs (kgQ gr l an) V (Hq.out.below HBV.out) (HQ1.out)).mono ?_
  rintro e u1 ⟨rfl, hb⟩
  rw [decide_symm]
  obtain ⟨e1, he1⟩ : ∃ q, decide (kgQ gr l an = qs) = q := ⟨_, rfl⟩
  rw [he1] at HV ⊢
  clear he1
  have HB2 := Lib.hid (HBV.out.trans (hb.mono HBV.out.size))
  have HT2 := Lib.hid (HT.out.below hb)
  have HR2 := Lib.hid (HRV.out.below hb)
  have HC2 := Lib.hid (HC1.out.below hb)
  have HS2 := Lib.hid (HS1.out.below hb)
  clear hb
  cases e1 with
  | false =>
    go_wp2_with fail
    go_ret2
    exact ⟨by rw [HV.out, HQB.out]; rfl, HB2.out⟩
  | true =>
  rw [if_pos rfl] at HV
  have t1 := HT2.out.cell (i := 1) rfl
  have r1 := HR2.out.cell (i := 1) rfl
  have t2 := HT2.out.cell (i := 2) rfl
  have r2 := HR2.out.cell (i := 2) rfl
  by_cases hy : Y0 = y
  rotate_left
  · have hy2 : ¬ y = Y0 := fun e => hy e.symm
    rw [if_neg hy] at HV
    go_wp2_with fail
    go_ret2
    exact ⟨by rw [HV.out, HQB.out]; rfl, HB2.out⟩
  rw [if_pos hy] at HV
  subst hy
  go_wp2_with fail
  clear t1 r1 t2 r2
  refine (spec_l1SameK _ _ cs (kgD gr l an).c u1 (Hc.out.below HB2.out) (HC2.out)).mono ?_
  rintro e u2 ⟨rfl, hb⟩
  rw [decide_symm]
  obtain ⟨e2, he2⟩ : ∃ q, decide ((kgD gr l an).c = cs) = q := ⟨_, rfl⟩
  rw [he2] at HV ⊢
  clear he2
  have HB3 := Lib.hid (HB2.out.trans (hb.mono HB2.out.size))
  have HT3 := Lib.hid (HT2.out.below hb)
  have HR3 := Lib.hid (HR2.out.below hb)
  have HS3 := Lib.hid (HS2.out.below hb)
  clear hb
  cases e2 with
  | false =>
    go_wp2_with fail
    go_ret2
    exact ⟨by rw [HV.out, HQB.out]; rfl, HB3.out⟩
  | true =>
  rw [if_pos rfl] at HV
  have t3 := HT3.out.cell (i := 3) rfl
  have r3 := HR3.out.cell (i := 3) rfl
  go_wp2_with fail
  clear t3 r3
  refine (spec_l1SameK _ _ ss (kgD gr l an).s u2 (Hs.out.below HB3.out) (HS3.out)).mono ?_
  rintro e u3 ⟨rfl, hb⟩
  rw [decide_symm]
  obtain ⟨e3, he3⟩ : ∃ q, decide ((kgD gr l an).s = ss) = q := ⟨_, rfl⟩
  rw [he3] at HV ⊢
  clear he3
  have HB4 := Lib.hid (HB3.out.trans (hb.mono HB3.out.size))
  clear hb
  cases e3 with
  | false =>
    go_wp2_with fail
    go_ret2
    exact ⟨by rw [HV.out, HQB.out]; rfl, HB4.out⟩
  | true =>
    go_wp2_with fail
    go_ret2
    exact ⟨by rw [HV.out, HQB.out]; rfl, HB4.out⟩
end Go.Proofs.Ytacpnphfopmofaa
