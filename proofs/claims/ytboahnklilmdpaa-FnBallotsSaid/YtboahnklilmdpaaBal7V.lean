/- Ballots: casts of the model: walk (printed by gen_bal6.py). -/
import Derived.Test.YtboahnklilmdpaaBal6V
namespace Go.Proofs.Ytboahnklilmdpaa
open Go.RowKit
set_option linter.unusedSimpArgs false
set_option linter.unusedVariables false
set_option maxRecDepth 100000 in
set_option maxHeartbeats 4000000 in
theorem spec_CastVote (gr : GroupD) (key cred vote : Int) (cv : Value) (cs : List Int) (w : World) (hkey : I64 key) (hcred : I64 cred) (hvote : I64 vote) (hcs : Ints w cv cs) :
    Calls Try.prog 71 #[.agg #[.int .i64 gr.p, .int .i64 gr.q, .int .i64 gr.g], .int .i64 key, .int .i64 cred, .int .i64 vote, cv] w fun e w' => RetC e w' w.heap.size (caB gr key cred vote cs) (caR gr sCast key cred vote cs) ∧ Below w.heap.size w w' := by
  obtain ⟨cva, cvn, cvc, rfl⟩ := hcs.shape
  have Ecv := Lib.hid hcs.len
  have Kcv := Lib.hid hcs.capMax
  have Hcv := Lib.hid hcs
  clear hcs
  obtain ⟨W, hW⟩ : ∃ W, W = (w.alloc (.cells #[.int .i64 gr.p, .int .i64 gr.q, .int .i64 gr.g] 39)).alloc (.cells #[.int .i64 0, .int .i64 0, .int .i64 0, .int .i64 0, (.slice none 0 0), (.slice none 0 0), (.slice none 0 0)] 104) := ⟨_, rfl⟩
  have HB : Hid (Below w.heap.size w W) := by unfold Hid; rw [hW]; (repeat (first | exact Below.refl _ _ | assumption | refine Below.drew ?_ | refine Below.alloc ?_ (by first | (simp; done) | (simp; omega)) _ | refine Below.setCell ?_ (by first | (simp; done) | (simp; omega)) _))
  have c0_0 : W.cell? ⟨w.heap.size, 0, none⟩ = some (.int .i64 gr.p) := by rw [hW]; simp [go_sem]
  have c0_1 : W.cell? ⟨w.heap.size, 1, none⟩ = some (.int .i64 gr.q) := by rw [hW]; simp [go_sem]
  have c0_2 : W.cell? ⟨w.heap.size, 2, none⟩ = some (.int .i64 gr.g) := by rw [hW]; simp [go_sem]
  have HR1 : Hid (BoxN W (w.heap.size + 1) 104 [.int .i64 0, .int .i64 0, .int .i64 0, .int .i64 0, (.slice none 0 0), (.slice none 0 0), (.slice none 0 0)]) := by unfold Hid; rw [hW]; have h := (BoxN.new (w.alloc (.cells #[.int .i64 gr.p, .int .i64 gr.q, .int .i64 gr.g] 39)) [.int .i64 0, .int .i64 0, .int .i64 0, .int .i64 0, (.slice none 0 0), (.slice none 0 0), (.slice none 0 0)] 104); simpa using h
  have HSW : Hid (W.heap.size = w.heap.size + 2) := by unfold Hid; rw [hW]; simp
  have lr1 : w.heap.size + 1 < W.heap.size := by have := HSW.out; omega
  go_enter Try.func71, Try.ntmps71
  go_wp2_with fail
  rw [← hW]
  have hse : w.heap.size + 1 + 1 = W.heap.size := by have := HSW.out; omega
  (try rw [hse])
  clear hse
  clear hW
  have hc : Below W.heap.size W W := Below.refl _ _
  have HCC : Hid (∀ u, Below W.heap.size W u → u.cell? ⟨w.heap.size, 0, none⟩ = some (.int .i64 gr.p) ∧ u.cell? ⟨w.heap.size, 1, none⟩ = some (.int .i64 gr.q) ∧ u.cell? ⟨w.heap.size, 2, none⟩ = some (.int .i64 gr.g)) := fun u h => ⟨box_at c0_0 h, box_at c0_1 h, box_at c0_2 h⟩
  go_wp2_with fail
  refine (spec_eKey gr key _ hkey).mono ?_
  rintro e u1 ⟨rfl, hq1⟩
  replace hc := Below.next hc hq1
  clear hq1 c0_0 c0_1 c0_2
  obtain ⟨c0_0, c0_1, c0_2⟩ := HCC.out _ hc
  cases hc1 : goodG gr && elB gr key with
  | false =>
    have Hhc1 := Lib.hid hc1
    clear hc1
    have HRE1 := Lib.hid (HR1.out.below hc)
    clear HR1
    have HBE := Lib.hid (HB.out.trans (hc.mono HB.out.size))
    have r1_0 := HRE1.out.cell (i := 0) rfl
    have r1_1 := HRE1.out.cell (i := 1) rfl
    have r1_2 := HRE1.out.cell (i := 2) rfl
    have r1_3 := HRE1.out.cell (i := 3) rfl
    have r1_4 := HRE1.out.cell (i := 4) rfl
    have r1_5 := HRE1.out.cell (i := 5) rfl
    have r1_6 := HRE1.out.cell (i := 6) rfl
    have fr1 := fun j => HRE1.out.frozen j
    go_wp2_with fail
    have HRF := Lib.hid (((((((HRE1.out.set 0 (.int .i64 0)).set 1 (.int .i64 0)).set 2 (.int .i64 0)).set 3 (.int .i64 0)).set 4 ((.slice none 0 0))).set 5 ((.slice none 0 0))).set 6 ((.slice none 0 0)))
    have HBF := Lib.hid (((((((HBE.out.setCell (p := ⟨w.heap.size + 1, 0, none⟩) (by show w.heap.size ≤ w.heap.size + 1; omega) (.int .i64 0)).setCell (p := ⟨w.heap.size + 1, 1, none⟩) (by show w.heap.size ≤ w.heap.size + 1; omega) (.int .i64 0)).setCell (p := ⟨w.heap.size + 1, 2, none⟩) (by show w.heap.size ≤ w.heap.size + 1; omega) (.int .i64 0)).setCell (p := ⟨w.heap.size + 1, 3, none⟩) (by show w.heap.size ≤ w.heap.size + 1; omega) (.int .i64 0)).setCell (p := ⟨w.heap.size + 1, 4, none⟩) (by show w.heap.size ≤ w.heap.size + 1; omega) ((.slice none 0 0))).setCell (p := ⟨w.heap.size + 1, 5, none⟩) (by show w.heap.size ≤ w.heap.size + 1; omega) ((.slice none 0 0))).setCell (p := ⟨w.heap.size + 1, 6, none⟩) (by show w.heap.size ≤ w.heap.size + 1; omega) ((.slice none 0 0)))
    clear r1_0 r1_1 r1_2 r1_3 r1_4 r1_5 r1_6 fr1
    have r1_0 := HRF.out.cell (i := 0) rfl
    have r1_1 := HRF.out.cell (i := 1) rfl
    have r1_2 := HRF.out.cell (i := 2) rfl
    have r1_3 := HRF.out.cell (i := 3) rfl
    have r1_4 := HRF.out.cell (i := 4) rfl
    have r1_5 := HRF.out.cell (i := 5) rfl
    have r1_6 := HRF.out.cell (i := 6) rfl
    try (go_wp2_with fail)
    have HVB : Hid (caB gr key cred vote cs = false) := by unfold Hid; unfold caB; rw [← Bool.and_assoc, Hhc1.out]; rfl
    have HPR : Hid (caR gr sCast key cred vote cs = ⟨⟨0, 0⟩, ⟨0, 0⟩, ⟨[], [], []⟩⟩) := by unfold Hid caR; rw [if_neg (by rw [HVB.out]; simp)]
    refine bodyPost_ret (v := .tuple #[.agg #[.int .i64 0, .int .i64 0, .int .i64 0, .int .i64 0, (.slice none 0 0), (.slice none 0 0), (.slice none 0 0)], .bool false]) (by simp [results, Try.results71, go_sem, r1_0, r1_1, r1_2, r1_3, r1_4, r1_5, r1_6]) rfl ⟨(by rw [HVB.out, HPR.out]; exact RetC.mk (x := ⟨⟨0, 0⟩, ⟨0, 0⟩, ⟨[], [], []⟩⟩) ⟨⟨⟨by decide, by decide⟩, ⟨by decide, by decide⟩⟩, ⟨⟨by decide, by decide⟩, ⟨by decide, by decide⟩⟩⟩ (OwnI.nil _ _) (OwnI.nil _ _) (OwnI.nil _ _)), HBF.out⟩
  | true =>
    have HGK := hc1
    rw [Bool.and_eq_true] at HGK
    have HGD := Lib.hid HGK.1
    have HG := Lib.hid (goodG_ok HGK.1)
    have HEK := Lib.hid HGK.2
    clear HGK
    have Hhc1 := Lib.hid hc1
    clear hc1
    go_wp2_with fail
    refine (spec_dCredential gr cred _ hcred).mono ?_
    rintro e u2 ⟨rfl, hq2⟩
    replace hc := Below.next hc hq2
    clear hq2 c0_0 c0_1 c0_2
    obtain ⟨c0_0, c0_1, c0_2⟩ := HCC.out _ hc
    cases hc2 : (goodG gr && crB gr cred) with
    | false =>
      have HCB : Hid (crB gr cred = false) := by have q := hc2; rw [HGD.out, Bool.true_and] at q; exact q
      have Hhc2 := Lib.hid hc2
      clear hc2
      have HRE1 := Lib.hid (HR1.out.below hc)
      clear HR1
      have HBE := Lib.hid (HB.out.trans (hc.mono HB.out.size))
      have r1_0 := HRE1.out.cell (i := 0) rfl
      have r1_1 := HRE1.out.cell (i := 1) rfl
      have r1_2 := HRE1.out.cell (i := 2) rfl
      have r1_3 := HRE1.out.cell (i := 3) rfl
      have r1_4 := HRE1.out.cell (i := 4) rfl
      have r1_5 := HRE1.out.cell (i := 5) rfl
      have r1_6 := HRE1.out.cell (i := 6) rfl
      have fr1 := fun j => HRE1.out.frozen j
      go_wp2_with fail
      have HRF := Lib.hid (((((((HRE1.out.set 0 (.int .i64 0)).set 1 (.int .i64 0)).set 2 (.int .i64 0)).set 3 (.int .i64 0)).set 4 ((.slice none 0 0))).set 5 ((.slice none 0 0))).set 6 ((.slice none 0 0)))
      have HBF := Lib.hid (((((((HBE.out.setCell (p := ⟨w.heap.size + 1, 0, none⟩) (by show w.heap.size ≤ w.heap.size + 1; omega) (.int .i64 0)).setCell (p := ⟨w.heap.size + 1, 1, none⟩) (by show w.heap.size ≤ w.heap.size + 1; omega) (.int .i64 0)).setCell (p := ⟨w.heap.size + 1, 2, none⟩) (by show w.heap.size ≤ w.heap.size + 1; omega) (.int .i64 0)).setCell (p := ⟨w.heap.size + 1, 3, none⟩) (by show w.heap.size ≤ w.heap.size + 1; omega) (.int .i64 0)).setCell (p := ⟨w.heap.size + 1, 4, none⟩) (by show w.heap.size ≤ w.heap.size + 1; omega) ((.slice none 0 0))).setCell (p := ⟨w.heap.size + 1, 5, none⟩) (by show w.heap.size ≤ w.heap.size + 1; omega) ((.slice none 0 0))).setCell (p := ⟨w.heap.size + 1, 6, none⟩) (by show w.heap.size ≤ w.heap.size + 1; omega) ((.slice none 0 0)))
      clear r1_0 r1_1 r1_2 r1_3 r1_4 r1_5 r1_6 fr1
      have r1_0 := HRF.out.cell (i := 0) rfl
      have r1_1 := HRF.out.cell (i := 1) rfl
      have r1_2 := HRF.out.cell (i := 2) rfl
      have r1_3 := HRF.out.cell (i := 3) rfl
      have r1_4 := HRF.out.cell (i := 4) rfl
      have r1_5 := HRF.out.cell (i := 5) rfl
      have r1_6 := HRF.out.cell (i := 6) rfl
      try (go_wp2_with fail)
      have HVB : Hid (caB gr key cred vote cs = false) := by unfold Hid; simp [caB, Hhc1.out, Hhc2.out, HGD.out, HEK.out, HCB.out]
      have HPR : Hid (caR gr sCast key cred vote cs = ⟨⟨0, 0⟩, ⟨0, 0⟩, ⟨[], [], []⟩⟩) := by unfold Hid caR; rw [if_neg (by rw [HVB.out]; simp)]
      refine bodyPost_ret (v := .tuple #[.agg #[.int .i64 0, .int .i64 0, .int .i64 0, .int .i64 0, (.slice none 0 0), (.slice none 0 0), (.slice none 0 0)], .bool false]) (by simp [results, Try.results71, go_sem, r1_0, r1_1, r1_2, r1_3, r1_4, r1_5, r1_6]) rfl ⟨(by rw [HVB.out, HPR.out]; exact RetC.mk (x := ⟨⟨0, 0⟩, ⟨0, 0⟩, ⟨[], [], []⟩⟩) ⟨⟨⟨by decide, by decide⟩, ⟨by decide, by decide⟩⟩, ⟨⟨by decide, by decide⟩, ⟨by decide, by decide⟩⟩⟩ (OwnI.nil _ _) (OwnI.nil _ _) (OwnI.nil _ _)), HBF.out⟩
    | true =>
      have HCR : Hid (elB gr cred = true) := by have q := hc2; rw [Bool.and_eq_true] at q; exact crB_el q.2
      have HCB : Hid (crB gr cred = true) := by have q := hc2; rw [Bool.and_eq_true] at q; exact q.2
      have Hhc2 := Lib.hid hc2
      clear hc2
      go_wp2_with fail
      refine (spec_gExps gr _ [vote] _ HG.out (OwnI.lit (B := 0) _ (Nat.zero_le _) (l := [vote]) (AllI64.cons hvote AllI64.nil) rfl (by simp [maxLen]) 1 rfl).ints).mono ?_
      rintro e u3 ⟨rfl, hq3⟩
      replace hq3 := Below.next (keep_al (Below.refl _ _) _) hq3
      replace hc := Below.next hc hq3
      clear hq3 c0_0 c0_1 c0_2
      obtain ⟨c0_0, c0_1, c0_2⟩ := HCC.out _ hc
      cases hc3 : [vote].all (expB gr) with
      | false =>
        have Hhc3 := Lib.hid hc3
        clear hc3
        have HRE1 := Lib.hid (HR1.out.below hc)
        clear HR1
        have HBE := Lib.hid (HB.out.trans (hc.mono HB.out.size))
        have r1_0 := HRE1.out.cell (i := 0) rfl
        have r1_1 := HRE1.out.cell (i := 1) rfl
        have r1_2 := HRE1.out.cell (i := 2) rfl
        have r1_3 := HRE1.out.cell (i := 3) rfl
        have r1_4 := HRE1.out.cell (i := 4) rfl
        have r1_5 := HRE1.out.cell (i := 5) rfl
        have r1_6 := HRE1.out.cell (i := 6) rfl
        have fr1 := fun j => HRE1.out.frozen j
        go_wp2_with fail
        have HRF := Lib.hid (((((((HRE1.out.set 0 (.int .i64 0)).set 1 (.int .i64 0)).set 2 (.int .i64 0)).set 3 (.int .i64 0)).set 4 ((.slice none 0 0))).set 5 ((.slice none 0 0))).set 6 ((.slice none 0 0)))
        have HBF := Lib.hid (((((((HBE.out.setCell (p := ⟨w.heap.size + 1, 0, none⟩) (by show w.heap.size ≤ w.heap.size + 1; omega) (.int .i64 0)).setCell (p := ⟨w.heap.size + 1, 1, none⟩) (by show w.heap.size ≤ w.heap.size + 1; omega) (.int .i64 0)).setCell (p := ⟨w.heap.size + 1, 2, none⟩) (by show w.heap.size ≤ w.heap.size + 1; omega) (.int .i64 0)).setCell (p := ⟨w.heap.size + 1, 3, none⟩) (by show w.heap.size ≤ w.heap.size + 1; omega) (.int .i64 0)).setCell (p := ⟨w.heap.size + 1, 4, none⟩) (by show w.heap.size ≤ w.heap.size + 1; omega) ((.slice none 0 0))).setCell (p := ⟨w.heap.size + 1, 5, none⟩) (by show w.heap.size ≤ w.heap.size + 1; omega) ((.slice none 0 0))).setCell (p := ⟨w.heap.size + 1, 6, none⟩) (by show w.heap.size ≤ w.heap.size + 1; omega) ((.slice none 0 0)))
        clear r1_0 r1_1 r1_2 r1_3 r1_4 r1_5 r1_6 fr1
        have r1_0 := HRF.out.cell (i := 0) rfl
        have r1_1 := HRF.out.cell (i := 1) rfl
        have r1_2 := HRF.out.cell (i := 2) rfl
        have r1_3 := HRF.out.cell (i := 3) rfl
        have r1_4 := HRF.out.cell (i := 4) rfl
        have r1_5 := HRF.out.cell (i := 5) rfl
        have r1_6 := HRF.out.cell (i := 6) rfl
        try (go_wp2_with fail)
        have HVB : Hid (caB gr key cred vote cs = false) := by unfold Hid; have qhc3 := Hhc3.out; simp only [List.all_cons, List.all_nil, Bool.and_true] at qhc3; simp [caB, Hhc1.out, Hhc2.out, qhc3, HGD.out, HEK.out, HCB.out]
        have HPR : Hid (caR gr sCast key cred vote cs = ⟨⟨0, 0⟩, ⟨0, 0⟩, ⟨[], [], []⟩⟩) := by unfold Hid caR; rw [if_neg (by rw [HVB.out]; simp)]
        refine bodyPost_ret (v := .tuple #[.agg #[.int .i64 0, .int .i64 0, .int .i64 0, .int .i64 0, (.slice none 0 0), (.slice none 0 0), (.slice none 0 0)], .bool false]) (by simp [results, Try.results71, go_sem, r1_0, r1_1, r1_2, r1_3, r1_4, r1_5, r1_6]) rfl ⟨(by rw [HVB.out, HPR.out]; exact RetC.mk (x := ⟨⟨0, 0⟩, ⟨0, 0⟩, ⟨[], [], []⟩⟩) ⟨⟨⟨by decide, by decide⟩, ⟨by decide, by decide⟩⟩, ⟨⟨by decide, by decide⟩, ⟨by decide, by decide⟩⟩⟩ (OwnI.nil _ _) (OwnI.nil _ _) (OwnI.nil _ _)), HBF.out⟩
      | true =>
        have HVO : Hid (expB gr vote = true) := by unfold Hid; simpa using hc3
        have Hhc3 := Lib.hid hc3
        clear hc3
        cases hc4 : ((cvn : Int) != 4) with
        | false =>
          have HL2 : Hid (decide (cs.length = 4) = true) := by have q := hc4; rw [bne_eq_false_iff_eq] at q; exact decide_eq_true (by have := Ecv.out; omega)
          have HL4 : Hid (cs.length = 4) := by unfold Hid; exact of_decide_eq_true HL2.out
          go_wp2_with fail
          refine (spec_gExps gr _ cs _ HG.out (Hcv.out.below (HB.out.trans (hc.mono HB.out.size)))).mono ?_
          rintro e u4 ⟨rfl, hq4⟩
          replace hc := Below.next hc hq4
          clear hq4 c0_0 c0_1 c0_2
          obtain ⟨c0_0, c0_1, c0_2⟩ := HCC.out _ hc
          cases hc5 : cs.all (expB gr) with
          | false =>
            have Hhc5 := Lib.hid hc5
            clear hc5
            have HRE1 := Lib.hid (HR1.out.below hc)
            clear HR1
            have HBE := Lib.hid (HB.out.trans (hc.mono HB.out.size))
            have r1_0 := HRE1.out.cell (i := 0) rfl
            have r1_1 := HRE1.out.cell (i := 1) rfl
            have r1_2 := HRE1.out.cell (i := 2) rfl
            have r1_3 := HRE1.out.cell (i := 3) rfl
            have r1_4 := HRE1.out.cell (i := 4) rfl
            have r1_5 := HRE1.out.cell (i := 5) rfl
            have r1_6 := HRE1.out.cell (i := 6) rfl
            have fr1 := fun j => HRE1.out.frozen j
            go_wp2_with fail
            have HRF := Lib.hid (((((((HRE1.out.set 0 (.int .i64 0)).set 1 (.int .i64 0)).set 2 (.int .i64 0)).set 3 (.int .i64 0)).set 4 ((.slice none 0 0))).set 5 ((.slice none 0 0))).set 6 ((.slice none 0 0)))
            have HBF := Lib.hid (((((((HBE.out.setCell (p := ⟨w.heap.size + 1, 0, none⟩) (by show w.heap.size ≤ w.heap.size + 1; omega) (.int .i64 0)).setCell (p := ⟨w.heap.size + 1, 1, none⟩) (by show w.heap.size ≤ w.heap.size + 1; omega) (.int .i64 0)).setCell (p := ⟨w.heap.size + 1, 2, none⟩) (by show w.heap.size ≤ w.heap.size + 1; omega) (.int .i64 0)).setCell (p := ⟨w.heap.size + 1, 3, none⟩) (by show w.heap.size ≤ w.heap.size + 1; omega) (.int .i64 0)).setCell (p := ⟨w.heap.size + 1, 4, none⟩) (by show w.heap.size ≤ w.heap.size + 1; omega) ((.slice none 0 0))).setCell (p := ⟨w.heap.size + 1, 5, none⟩) (by show w.heap.size ≤ w.heap.size + 1; omega) ((.slice none 0 0))).setCell (p := ⟨w.heap.size + 1, 6, none⟩) (by show w.heap.size ≤ w.heap.size + 1; omega) ((.slice none 0 0)))
            clear r1_0 r1_1 r1_2 r1_3 r1_4 r1_5 r1_6 fr1
            have r1_0 := HRF.out.cell (i := 0) rfl
            have r1_1 := HRF.out.cell (i := 1) rfl
            have r1_2 := HRF.out.cell (i := 2) rfl
            have r1_3 := HRF.out.cell (i := 3) rfl
            have r1_4 := HRF.out.cell (i := 4) rfl
            have r1_5 := HRF.out.cell (i := 5) rfl
            have r1_6 := HRF.out.cell (i := 6) rfl
            try (go_wp2_with fail)
            have HVB : Hid (caB gr key cred vote cs = false) := by unfold Hid; have qhc3 := Hhc3.out; simp only [List.all_cons, List.all_nil, Bool.and_true] at qhc3; simp [caB, Hhc1.out, Hhc2.out, qhc3, hc4, Hhc5.out, HGD.out, HEK.out, HCB.out, HL2.out]
            have HPR : Hid (caR gr sCast key cred vote cs = ⟨⟨0, 0⟩, ⟨0, 0⟩, ⟨[], [], []⟩⟩) := by unfold Hid caR; rw [if_neg (by rw [HVB.out]; simp)]
            refine bodyPost_ret (v := .tuple #[.agg #[.int .i64 0, .int .i64 0, .int .i64 0, .int .i64 0, (.slice none 0 0), (.slice none 0 0), (.slice none 0 0)], .bool false]) (by simp [results, Try.results71, go_sem, r1_0, r1_1, r1_2, r1_3, r1_4, r1_5, r1_6]) rfl ⟨(by rw [HVB.out, HPR.out]; exact RetC.mk (x := ⟨⟨0, 0⟩, ⟨0, 0⟩, ⟨[], [], []⟩⟩) ⟨⟨⟨by decide, by decide⟩, ⟨by decide, by decide⟩⟩, ⟨⟨by decide, by decide⟩, ⟨by decide, by decide⟩⟩⟩ (OwnI.nil _ _) (OwnI.nil _ _) (OwnI.nil _ _)), HBF.out⟩
          | true =>
            have HCA : Hid (cs.all (expB gr) = true) := hc5
            have Hhc5 := Lib.hid hc5
            clear hc5
            go_wp2_with fail
            refine (spec_dCast gr key cred vote _ cs _ HGD.out HEK.out HCR.out HVO.out (Hcv.out.below (HB.out.trans (hc.mono HB.out.size))) HL4.out HCA.out).mono ?_
            rintro e u5 ⟨⟨x0, x1, x2, rfl, hi, ho0, ho1, ho2⟩, hq5⟩
            have hszv := hc.size
            obtain ⟨X, hX⟩ : ∃ X, caD gr sCast key cred vote cs = X := ⟨_, rfl⟩
            have k0 : X.p.c.length = 2 := by rw [← hX]; rfl
            have k1 : X.p.h.length = 1 := by rw [← hX]; rfl
            have k2 : X.p.r.length = 2 := by rw [← hX]; rfl
            rw [hX] at hi ho0 ho1 ho2
            rw [hX]
            obtain ⟨xa0, xc0, rfl⟩ := OwnI.shapeN (n := 2) ho0 k0
            obtain ⟨xa1, xc1, rfl⟩ := OwnI.shapeN (n := 1) ho1 k1
            obtain ⟨xa2, xc2, rfl⟩ := OwnI.shapeN (n := 2) ho2 k2
            have HX := Lib.hid hX
            clear hX k0 k1 k2
            replace hc := Below.next hc hq5
            clear hq5 c0_0 c0_1 c0_2
            obtain ⟨c0_0, c0_1, c0_2⟩ := HCC.out _ hc
            have HRE1 := Lib.hid (HR1.out.below hc)
            clear HR1
            have HBE := Lib.hid (HB.out.trans (hc.mono HB.out.size))
            have r1_0 := HRE1.out.cell (i := 0) rfl
            have r1_1 := HRE1.out.cell (i := 1) rfl
            have r1_2 := HRE1.out.cell (i := 2) rfl
            have r1_3 := HRE1.out.cell (i := 3) rfl
            have r1_4 := HRE1.out.cell (i := 4) rfl
            have r1_5 := HRE1.out.cell (i := 5) rfl
            have r1_6 := HRE1.out.cell (i := 6) rfl
            have fr1 := fun j => HRE1.out.frozen j
            go_wp2_with fail
            have HRF := Lib.hid (((((((HRE1.out.set 0 (.int .i64 X.c.a)).set 1 (.int .i64 X.c.b)).set 2 (.int .i64 X.v.a)).set 3 (.int .i64 X.v.b)).set 4 ((.slice xa0 2 xc0))).set 5 ((.slice xa1 1 xc1))).set 6 ((.slice xa2 2 xc2)))
            have HBF := Lib.hid (((((((HBE.out.setCell (p := ⟨w.heap.size + 1, 0, none⟩) (by show w.heap.size ≤ w.heap.size + 1; omega) (.int .i64 X.c.a)).setCell (p := ⟨w.heap.size + 1, 1, none⟩) (by show w.heap.size ≤ w.heap.size + 1; omega) (.int .i64 X.c.b)).setCell (p := ⟨w.heap.size + 1, 2, none⟩) (by show w.heap.size ≤ w.heap.size + 1; omega) (.int .i64 X.v.a)).setCell (p := ⟨w.heap.size + 1, 3, none⟩) (by show w.heap.size ≤ w.heap.size + 1; omega) (.int .i64 X.v.b)).setCell (p := ⟨w.heap.size + 1, 4, none⟩) (by show w.heap.size ≤ w.heap.size + 1; omega) ((.slice xa0 2 xc0))).setCell (p := ⟨w.heap.size + 1, 5, none⟩) (by show w.heap.size ≤ w.heap.size + 1; omega) ((.slice xa1 1 xc1))).setCell (p := ⟨w.heap.size + 1, 6, none⟩) (by show w.heap.size ≤ w.heap.size + 1; omega) ((.slice xa2 2 xc2)))
            clear r1_0 r1_1 r1_2 r1_3 r1_4 r1_5 r1_6 fr1
            have r1_0 := HRF.out.cell (i := 0) rfl
            have r1_1 := HRF.out.cell (i := 1) rfl
            have r1_2 := HRF.out.cell (i := 2) rfl
            have r1_3 := HRF.out.cell (i := 3) rfl
            have r1_4 := HRF.out.cell (i := 4) rfl
            have r1_5 := HRF.out.cell (i := 5) rfl
            have r1_6 := HRF.out.cell (i := 6) rfl
            try (go_wp2_with fail)
            have HVB : Hid (caB gr key cred vote cs = true) := by unfold Hid; have qhc3 := Hhc3.out; simp only [List.all_cons, List.all_nil, Bool.and_true] at qhc3; simp [caB, Hhc1.out, Hhc2.out, qhc3, hc4, Hhc5.out, HGD.out, HEK.out, HCB.out, HL2.out]
            have HPR : Hid (caR gr sCast key cred vote cs = X) := by unfold Hid caR; rw [if_pos HVB.out]; exact HX.out
            refine bodyPost_ret (v := .tuple #[.agg #[.int .i64 X.c.a, .int .i64 X.c.b, .int .i64 X.v.a, .int .i64 X.v.b, (.slice xa0 2 xc0), (.slice xa1 1 xc1), (.slice xa2 2 xc2)], .bool true]) (by simp [results, Try.results71, go_sem, r1_0, r1_1, r1_2, r1_3, r1_4, r1_5, r1_6]) rfl ⟨(by rw [HVB.out, HPR.out]; exact RetC.mk (x := X) hi ((((((((ho0.oth (b := w.heap.size + 1) (by omega) 0 (.int .i64 X.c.a)).oth (b := w.heap.size + 1) (by omega) 1 (.int .i64 X.c.b)).oth (b := w.heap.size + 1) (by omega) 2 (.int .i64 X.v.a)).oth (b := w.heap.size + 1) (by omega) 3 (.int .i64 X.v.b)).oth (b := w.heap.size + 1) (by omega) 4 ((.slice xa0 2 xc0))).oth (b := w.heap.size + 1) (by omega) 5 ((.slice xa1 1 xc1))).oth (b := w.heap.size + 1) (by omega) 6 ((.slice xa2 2 xc2))).mono (by omega)) ((((((((ho1.oth (b := w.heap.size + 1) (by omega) 0 (.int .i64 X.c.a)).oth (b := w.heap.size + 1) (by omega) 1 (.int .i64 X.c.b)).oth (b := w.heap.size + 1) (by omega) 2 (.int .i64 X.v.a)).oth (b := w.heap.size + 1) (by omega) 3 (.int .i64 X.v.b)).oth (b := w.heap.size + 1) (by omega) 4 ((.slice xa0 2 xc0))).oth (b := w.heap.size + 1) (by omega) 5 ((.slice xa1 1 xc1))).oth (b := w.heap.size + 1) (by omega) 6 ((.slice xa2 2 xc2))).mono (by omega)) ((((((((ho2.oth (b := w.heap.size + 1) (by omega) 0 (.int .i64 X.c.a)).oth (b := w.heap.size + 1) (by omega) 1 (.int .i64 X.c.b)).oth (b := w.heap.size + 1) (by omega) 2 (.int .i64 X.v.a)).oth (b := w.heap.size + 1) (by omega) 3 (.int .i64 X.v.b)).oth (b := w.heap.size + 1) (by omega) 4 ((.slice xa0 2 xc0))).oth (b := w.heap.size + 1) (by omega) 5 ((.slice xa1 1 xc1))).oth (b := w.heap.size + 1) (by omega) 6 ((.slice xa2 2 xc2))).mono (by omega))), HBF.out⟩
        | true =>
          have HL2 : Hid (decide (cs.length = 4) = false) := by have q := hc4; rw [bne_iff_ne] at q; exact decide_eq_false (by have := Ecv.out; omega)
          have HRE1 := Lib.hid (HR1.out.below hc)
          clear HR1
          have HBE := Lib.hid (HB.out.trans (hc.mono HB.out.size))
          have r1_0 := HRE1.out.cell (i := 0) rfl
          have r1_1 := HRE1.out.cell (i := 1) rfl
          have r1_2 := HRE1.out.cell (i := 2) rfl
          have r1_3 := HRE1.out.cell (i := 3) rfl
          have r1_4 := HRE1.out.cell (i := 4) rfl
          have r1_5 := HRE1.out.cell (i := 5) rfl
          have r1_6 := HRE1.out.cell (i := 6) rfl
          have fr1 := fun j => HRE1.out.frozen j
          go_wp2_with fail
          have HRF := Lib.hid (((((((HRE1.out.set 0 (.int .i64 0)).set 1 (.int .i64 0)).set 2 (.int .i64 0)).set 3 (.int .i64 0)).set 4 ((.slice none 0 0))).set 5 ((.slice none 0 0))).set 6 ((.slice none 0 0)))
          have HBF := Lib.hid (((((((HBE.out.setCell (p := ⟨w.heap.size + 1, 0, none⟩) (by show w.heap.size ≤ w.heap.size + 1; omega) (.int .i64 0)).setCell (p := ⟨w.heap.size + 1, 1, none⟩) (by show w.heap.size ≤ w.heap.size + 1; omega) (.int .i64 0)).setCell (p := ⟨w.heap.size + 1, 2, none⟩) (by show w.heap.size ≤ w.heap.size + 1; omega) (.int .i64 0)).setCell (p := ⟨w.heap.size + 1, 3, none⟩) (by show w.heap.size ≤ w.heap.size + 1; omega) (.int .i64 0)).setCell (p := ⟨w.heap.size + 1, 4, none⟩) (by show w.heap.size ≤ w.heap.size + 1; omega) ((.slice none 0 0))).setCell (p := ⟨w.heap.size + 1, 5, none⟩) (by show w.heap.size ≤ w.heap.size + 1; omega) ((.slice none 0 0))).setCell (p := ⟨w.heap.size + 1, 6, none⟩) (by show w.heap.size ≤ w.heap.size + 1; omega) ((.slice none 0 0)))
          clear r1_0 r1_1 r1_2 r1_3 r1_4 r1_5 r1_6 fr1
          have r1_0 := HRF.out.cell (i := 0) rfl
          have r1_1 := HRF.out.cell (i := 1) rfl
          have r1_2 := HRF.out.cell (i := 2) rfl
          have r1_3 := HRF.out.cell (i := 3) rfl
          have r1_4 := HRF.out.cell (i := 4) rfl
          have r1_5 := HRF.out.cell (i := 5) rfl
          have r1_6 := HRF.out.cell (i := 6) rfl
          try (go_wp2_with fail)
          have HVB : Hid (caB gr key cred vote cs = false) := by unfold Hid; have qhc3 := Hhc3.out; simp only [List.all_cons, List.all_nil, Bool.and_true] at qhc3; simp [caB, Hhc1.out, Hhc2.out, qhc3, hc4, HGD.out, HEK.out, HCB.out, HL2.out]
          have HPR : Hid (caR gr sCast key cred vote cs = ⟨⟨0, 0⟩, ⟨0, 0⟩, ⟨[], [], []⟩⟩) := by unfold Hid caR; rw [if_neg (by rw [HVB.out]; simp)]
          refine bodyPost_ret (v := .tuple #[.agg #[.int .i64 0, .int .i64 0, .int .i64 0, .int .i64 0, (.slice none 0 0), (.slice none 0 0), (.slice none 0 0)], .bool false]) (by simp [results, Try.results71, go_sem, r1_0, r1_1, r1_2, r1_3, r1_4, r1_5, r1_6]) rfl ⟨(by rw [HVB.out, HPR.out]; exact RetC.mk (x := ⟨⟨0, 0⟩, ⟨0, 0⟩, ⟨[], [], []⟩⟩) ⟨⟨⟨by decide, by decide⟩, ⟨by decide, by decide⟩⟩, ⟨⟨by decide, by decide⟩, ⟨by decide, by decide⟩⟩⟩ (OwnI.nil _ _) (OwnI.nil _ _) (OwnI.nil _ _)), HBF.out⟩
end Go.Proofs.Ytboahnklilmdpaa
