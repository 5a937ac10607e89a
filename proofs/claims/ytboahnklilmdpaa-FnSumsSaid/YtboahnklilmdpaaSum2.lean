/- Proofs of sums made: walks (printed by gen_sum2.py). -/
import Derived.Test.YtboahnklilmdpaaSum1
import Derived.Test.YtboahnklilmdpaaBa
namespace Go.Proofs.Ytboahnklilmdpaa
open Go.RowKit
set_option linter.unusedSimpArgs false
set_option linter.unusedVariables false

theorem rd3s {W : World} {v1 v2 v3 : Value} {l1 l2 l3 : List Int} (h1 : Ints (W.alloc (.cells #[v1, v2, v3] 24)) v1 l1) (h2 : Ints (W.alloc (.cells #[v1, v2, v3] 24)) v2 l2) (h3 : Ints (W.alloc (.cells #[v1, v2, v3] 24)) v3 l3) :
    RdL kInts (W.alloc (.cells #[v1, v2, v3] 24)) (.slice (some ⟨W.heap.size, 0, none⟩) 3 3) [l1, l2, l3] := by
  refine ⟨some ⟨W.heap.size, 0, none⟩, 3, 3, rfl, rfl, Nat.le_refl _, by unfold maxLen; omega, .inr (.inr ⟨W.heap.size, 0, rfl, fun i => if i = 0 then v1 else if i = 1 then v2 else v3, fun i hi => ?_⟩)⟩
  simp only [List.length_cons, List.length_nil] at hi
  rcases (by omega : i = 0 ∨ i = 1 ∨ i = 2) with rfl | rfl | rfl
  · exact ⟨by simp [go_sem], h1⟩
  · exact ⟨by simp [go_sem], h2⟩
  · exact ⟨by simp [go_sem], h3⟩
theorem all_3 {f : Int → Bool} (a b c : List Int) : [a, b, c].flatten.all f = (a.all f && (b.all f && c.all f)) := by simp [List.all_append]
theorem exps_bd {gr : GroupD} {l : List Int} (h : l.all (expB gr) = true) : ∀ x ∈ l, 0 ≤ x ∧ x < gr.q := fun x hx => by
  have := expB_bd (List.all_eq_true.1 h x hx); omega
set_option maxRecDepth 100000 in
set_option maxHeartbeats 2000000 in
theorem spec_ProveSum (gr : GroupD) (bh : Int) (bv : Value) (bl : List Int) (rv : Value) (rs : List Int) (lv : Value) (l : List Int) (cv : Value) (cs : List Int) (w : World) (hb : Ints w bv bl) (ibh : I64 bh) (hrs : Ints w rv rs) (hl : Ints w lv l) (hcs : Ints w cv cs) :
    Calls Try.prog 86 #[.agg #[.int .i64 gr.p, .int .i64 gr.q, .int .i64 gr.g], .agg #[.int .i64 bh, bv], rv, lv, cv] w fun e w' => RetP e w' w.heap.size (psB gr bh bl rs l cs) (psR gr sSum bh bl rs l cs) ∧ Below w.heap.size w w' := by
  obtain ⟨bva, bvn, bvc, rfl⟩ := hb.shape
  have Ebv := Lib.hid hb.len
  have Kbv := Lib.hid hb.capMax
  have Hbv := Lib.hid hb
  clear hb
  obtain ⟨rva, rvn, rvc, rfl⟩ := hrs.shape
  have Erv := Lib.hid hrs.len
  have Krv := Lib.hid hrs.capMax
  have Hrv := Lib.hid hrs
  clear hrs
  obtain ⟨lva, lvn, lvc, rfl⟩ := hl.shape
  have Elv := Lib.hid hl.len
  have Klv := Lib.hid hl.capMax
  have Hlv := Lib.hid hl
  clear hl
  obtain ⟨cva, cvn, cvc, rfl⟩ := hcs.shape
  have Ecv := Lib.hid hcs.len
  have Kcv := Lib.hid hcs.capMax
  have Hcv := Lib.hid hcs
  clear hcs
  obtain ⟨W, hW⟩ : ∃ W, W = ((w.alloc (.cells #[.int .i64 gr.p, .int .i64 gr.q, .int .i64 gr.g] 39)).alloc (.cells #[.int .i64 bh, (.slice bva bvn bvc)] 79)).alloc (.cells #[(.slice none 0 0), (.slice none 0 0), (.slice none 0 0)] 42) := ⟨_, rfl⟩
  have HB : Hid (Below w.heap.size w W) := by unfold Hid; rw [hW]; (repeat (first | exact Below.refl _ _ | assumption | refine Below.drew ?_ | refine Below.alloc ?_ (by first | (simp; done) | (simp; omega)) _ | refine Below.setCell ?_ (by first | (simp; done) | (simp; omega)) _))
  have c0_0 : W.cell? ⟨w.heap.size, 0, none⟩ = some (.int .i64 gr.p) := by rw [hW]; simp [go_sem]
  have c0_1 : W.cell? ⟨w.heap.size, 1, none⟩ = some (.int .i64 gr.q) := by rw [hW]; simp [go_sem]
  have c0_2 : W.cell? ⟨w.heap.size, 2, none⟩ = some (.int .i64 gr.g) := by rw [hW]; simp [go_sem]
  have c1_0 : W.cell? ⟨w.heap.size + 1, 0, none⟩ = some (.int .i64 bh) := by rw [hW]; simp [go_sem]
  have c1_1 : W.cell? ⟨w.heap.size + 1, 1, none⟩ = some ((.slice bva bvn bvc)) := by rw [hW]; simp [go_sem]
  have HR2 : Hid (BoxN W (w.heap.size + 1 + 1) 42 [(.slice none 0 0), (.slice none 0 0), (.slice none 0 0)]) := by unfold Hid; rw [hW]; have h := (BoxN.new ((w.alloc (.cells #[.int .i64 gr.p, .int .i64 gr.q, .int .i64 gr.g] 39)).alloc (.cells #[.int .i64 bh, (.slice bva bvn bvc)] 79)) [(.slice none 0 0), (.slice none 0 0), (.slice none 0 0)] 42); simpa using h
  have HSW : Hid (W.heap.size = w.heap.size + 3) := by unfold Hid; rw [hW]; simp
  have lr2 : w.heap.size + 1 + 1 < W.heap.size := by have := HSW.out; omega
  go_enter Try.func86, Try.ntmps86
  go_wp2_with fail
  rw [← hW]
  have hse : w.heap.size + 1 + 1 + 1 = W.heap.size := by have := HSW.out; omega
  (try rw [hse])
  clear hse
  clear hW
  have hc : Below W.heap.size W W := Below.refl _ _
  have HCC : Hid (∀ u, Below W.heap.size W u → u.cell? ⟨w.heap.size, 0, none⟩ = some (.int .i64 gr.p) ∧ u.cell? ⟨w.heap.size, 1, none⟩ = some (.int .i64 gr.q) ∧ u.cell? ⟨w.heap.size, 2, none⟩ = some (.int .i64 gr.g) ∧ u.cell? ⟨w.heap.size + 1, 0, none⟩ = some (.int .i64 bh) ∧ u.cell? ⟨w.heap.size + 1, 1, none⟩ = some ((.slice bva bvn bvc))) := fun u h => ⟨box_at c0_0 h, box_at c0_1 h, box_at c0_2 h, box_at c1_0 h, box_at c1_1 h⟩
  go_wp2_with fail
  refine (spec_l9Good gr bh _ bl _ (Hbv.out.below (HB.out.trans (hc.mono HB.out.size))) ibh).mono ?_
  rintro e u1 ⟨rfl, hq1⟩
  replace hc := Below.next hc hq1
  clear hq1 c0_0 c0_1 c0_2 c1_0 c1_1
  obtain ⟨c0_0, c0_1, c0_2, c1_0, c1_1⟩ := HCC.out _ hc
  cases hc1 : baB gr bh bl with
  | false =>
    have Hhc1 := Lib.hid hc1
    clear hc1
    have HRE2 := Lib.hid (HR2.out.below hc)
    clear HR2
    have HBE := Lib.hid (HB.out.trans (hc.mono HB.out.size))
    have r2_0 := HRE2.out.cell (i := 0) rfl
    have r2_1 := HRE2.out.cell (i := 1) rfl
    have r2_2 := HRE2.out.cell (i := 2) rfl
    have fr2 := fun j => HRE2.out.frozen j
    go_wp2_with fail
    have HRF := Lib.hid (((HRE2.out.set 0 ((.slice none 0 0))).set 1 ((.slice none 0 0))).set 2 ((.slice none 0 0)))
    have HBF := Lib.hid (((HBE.out.setCell (p := ⟨w.heap.size + 1 + 1, 0, none⟩) (by show w.heap.size ≤ w.heap.size + 1 + 1; omega) ((.slice none 0 0))).setCell (p := ⟨w.heap.size + 1 + 1, 1, none⟩) (by show w.heap.size ≤ w.heap.size + 1 + 1; omega) ((.slice none 0 0))).setCell (p := ⟨w.heap.size + 1 + 1, 2, none⟩) (by show w.heap.size ≤ w.heap.size + 1 + 1; omega) ((.slice none 0 0)))
    clear r2_0 r2_1 r2_2 fr2
    have r2_0 := HRF.out.cell (i := 0) rfl
    have r2_1 := HRF.out.cell (i := 1) rfl
    have r2_2 := HRF.out.cell (i := 2) rfl
    try (go_wp2_with fail)
    have HVB : Hid (psB gr bh bl rs l cs = false) := by unfold Hid; simp [psB, Hhc1.out]
    have HPR : Hid (psR gr sSum bh bl rs l cs = ⟨[], [], []⟩) := by unfold Hid psR; rw [if_neg (by rw [HVB.out]; simp)]
    refine bodyPost_ret (v := .tuple #[.agg #[(.slice none 0 0), (.slice none 0 0), (.slice none 0 0)], .bool false]) (by simp [results, Try.results86, go_sem, r2_0, r2_1, r2_2]) rfl ⟨(by rw [HVB.out, HPR.out]; exact RetP.mk (OwnI.nil _ _) (OwnI.nil _ _) (OwnI.nil _ _)), HBF.out⟩
  | true =>
    have HBA := Lib.hid (baB_parts hc1)
    have HG := Lib.hid (goodG_ok HBA.out.1)
    have sbh : Small bh := elB_small HG.out HBA.out.2.1
    have Hhc1 := Lib.hid hc1
    clear hc1
    go_wp2_with fail
    refine (spec_l1In (lvn : Int) 1 24 _).mono ?_
    rintro e u2 ⟨rfl, rfl⟩
    cases hc2 : decide (1 ≤ (lvn : Int) ∧ (lvn : Int) ≤ 24) with
    | false =>
      have HLC : Hid (decide (1 ≤ l.length ∧ l.length ≤ 24) = false) := by have q : ¬ (1 ≤ (lvn : Int) ∧ (lvn : Int) ≤ 24) := of_decide_eq_false hc2; exact decide_eq_false (by have := Elv.out; omega)
      have HRE2 := Lib.hid (HR2.out.below hc)
      clear HR2
      have HBE := Lib.hid (HB.out.trans (hc.mono HB.out.size))
      have r2_0 := HRE2.out.cell (i := 0) rfl
      have r2_1 := HRE2.out.cell (i := 1) rfl
      have r2_2 := HRE2.out.cell (i := 2) rfl
      have fr2 := fun j => HRE2.out.frozen j
      go_wp2_with fail
      have HRF := Lib.hid (((HRE2.out.set 0 ((.slice none 0 0))).set 1 ((.slice none 0 0))).set 2 ((.slice none 0 0)))
      have HBF := Lib.hid (((HBE.out.setCell (p := ⟨w.heap.size + 1 + 1, 0, none⟩) (by show w.heap.size ≤ w.heap.size + 1 + 1; omega) ((.slice none 0 0))).setCell (p := ⟨w.heap.size + 1 + 1, 1, none⟩) (by show w.heap.size ≤ w.heap.size + 1 + 1; omega) ((.slice none 0 0))).setCell (p := ⟨w.heap.size + 1 + 1, 2, none⟩) (by show w.heap.size ≤ w.heap.size + 1 + 1; omega) ((.slice none 0 0)))
      clear r2_0 r2_1 r2_2 fr2
      have r2_0 := HRF.out.cell (i := 0) rfl
      have r2_1 := HRF.out.cell (i := 1) rfl
      have r2_2 := HRF.out.cell (i := 2) rfl
      try (go_wp2_with fail)
      have HVB : Hid (psB gr bh bl rs l cs = false) := by unfold Hid; simp [psB, Hhc1.out, hc2, HLC.out]
      have HPR : Hid (psR gr sSum bh bl rs l cs = ⟨[], [], []⟩) := by unfold Hid psR; rw [if_neg (by rw [HVB.out]; simp)]
      refine bodyPost_ret (v := .tuple #[.agg #[(.slice none 0 0), (.slice none 0 0), (.slice none 0 0)], .bool false]) (by simp [results, Try.results86, go_sem, r2_0, r2_1, r2_2]) rfl ⟨(by rw [HVB.out, HPR.out]; exact RetP.mk (OwnI.nil _ _) (OwnI.nil _ _) (OwnI.nil _ _)), HBF.out⟩
    | true =>
      have HLC : Hid (decide (1 ≤ l.length ∧ l.length ≤ 24) = true) := by have q : 1 ≤ (lvn : Int) ∧ (lvn : Int) ≤ 24 := of_decide_eq_true hc2; exact decide_eq_true (by have := Elv.out; omega)
      have hl24 : lvn ≤ 24 := by have q : 1 ≤ (lvn : Int) ∧ (lvn : Int) ≤ 24 := of_decide_eq_true hc2; omega
      cases hc3 : ((rvn : Int) != (lvn : Int)) with
      | false =>
        have HRL : Hid (decide (rs.length = l.length) = true) := by have q := hc3; rw [bne_eq_false_iff_eq] at q; exact decide_eq_true (by have := Elv.out; have := Erv.out; omega)
        have hnat : rvn ≤ lvn := by have q := hc3; rw [bne_eq_false_iff_eq] at q; omega
        go_wp2_with fail
        refine (spec_gExps gr _ rs _ HG.out (Hrv.out.below (HB.out.trans (hc.mono HB.out.size)))).mono ?_
        rintro e u3 ⟨rfl, hq3⟩
        replace hc := Below.next hc hq3
        clear hq3 c0_0 c0_1 c0_2 c1_0 c1_1
        obtain ⟨c0_0, c0_1, c0_2, c1_0, c1_1⟩ := HCC.out _ hc
        cases hc4 : rs.all (expB gr) with
        | false =>
          have Hhc4 := Lib.hid hc4
          clear hc4
          have HRE2 := Lib.hid (HR2.out.below hc)
          clear HR2
          have HBE := Lib.hid (HB.out.trans (hc.mono HB.out.size))
          have r2_0 := HRE2.out.cell (i := 0) rfl
          have r2_1 := HRE2.out.cell (i := 1) rfl
          have r2_2 := HRE2.out.cell (i := 2) rfl
          have fr2 := fun j => HRE2.out.frozen j
          go_wp2_with fail
          have HRF := Lib.hid (((HRE2.out.set 0 ((.slice none 0 0))).set 1 ((.slice none 0 0))).set 2 ((.slice none 0 0)))
          have HBF := Lib.hid (((HBE.out.setCell (p := ⟨w.heap.size + 1 + 1, 0, none⟩) (by show w.heap.size ≤ w.heap.size + 1 + 1; omega) ((.slice none 0 0))).setCell (p := ⟨w.heap.size + 1 + 1, 1, none⟩) (by show w.heap.size ≤ w.heap.size + 1 + 1; omega) ((.slice none 0 0))).setCell (p := ⟨w.heap.size + 1 + 1, 2, none⟩) (by show w.heap.size ≤ w.heap.size + 1 + 1; omega) ((.slice none 0 0)))
          clear r2_0 r2_1 r2_2 fr2
          have r2_0 := HRF.out.cell (i := 0) rfl
          have r2_1 := HRF.out.cell (i := 1) rfl
          have r2_2 := HRF.out.cell (i := 2) rfl
          try (go_wp2_with fail)
          have HVB : Hid (psB gr bh bl rs l cs = false) := by unfold Hid; simp [psB, Hhc1.out, hc2, hc3, Hhc4.out, HLC.out, HRL.out]
          have HPR : Hid (psR gr sSum bh bl rs l cs = ⟨[], [], []⟩) := by unfold Hid psR; rw [if_neg (by rw [HVB.out]; simp)]
          refine bodyPost_ret (v := .tuple #[.agg #[(.slice none 0 0), (.slice none 0 0), (.slice none 0 0)], .bool false]) (by simp [results, Try.results86, go_sem, r2_0, r2_1, r2_2]) rfl ⟨(by rw [HVB.out, HPR.out]; exact RetP.mk (OwnI.nil _ _) (OwnI.nil _ _) (OwnI.nil _ _)), HBF.out⟩
        | true =>
          have HA1 := Lib.hid hc4
          have Hhc4 := Lib.hid hc4
          clear hc4
          go_wp2_with fail
          refine (spec_gExps gr _ l _ HG.out (Hlv.out.below (HB.out.trans (hc.mono HB.out.size)))).mono ?_
          rintro e u4 ⟨rfl, hq4⟩
          replace hc := Below.next hc hq4
          clear hq4 c0_0 c0_1 c0_2 c1_0 c1_1
          obtain ⟨c0_0, c0_1, c0_2, c1_0, c1_1⟩ := HCC.out _ hc
          cases hc5 : l.all (expB gr) with
          | false =>
            have Hhc5 := Lib.hid hc5
            clear hc5
            have HRE2 := Lib.hid (HR2.out.below hc)
            clear HR2
            have HBE := Lib.hid (HB.out.trans (hc.mono HB.out.size))
            have r2_0 := HRE2.out.cell (i := 0) rfl
            have r2_1 := HRE2.out.cell (i := 1) rfl
            have r2_2 := HRE2.out.cell (i := 2) rfl
            have fr2 := fun j => HRE2.out.frozen j
            go_wp2_with fail
            have HRF := Lib.hid (((HRE2.out.set 0 ((.slice none 0 0))).set 1 ((.slice none 0 0))).set 2 ((.slice none 0 0)))
            have HBF := Lib.hid (((HBE.out.setCell (p := ⟨w.heap.size + 1 + 1, 0, none⟩) (by show w.heap.size ≤ w.heap.size + 1 + 1; omega) ((.slice none 0 0))).setCell (p := ⟨w.heap.size + 1 + 1, 1, none⟩) (by show w.heap.size ≤ w.heap.size + 1 + 1; omega) ((.slice none 0 0))).setCell (p := ⟨w.heap.size + 1 + 1, 2, none⟩) (by show w.heap.size ≤ w.heap.size + 1 + 1; omega) ((.slice none 0 0)))
            clear r2_0 r2_1 r2_2 fr2
            have r2_0 := HRF.out.cell (i := 0) rfl
            have r2_1 := HRF.out.cell (i := 1) rfl
            have r2_2 := HRF.out.cell (i := 2) rfl
            try (go_wp2_with fail)
            have HVB : Hid (psB gr bh bl rs l cs = false) := by unfold Hid; simp [psB, Hhc1.out, hc2, hc3, Hhc4.out, Hhc5.out, HLC.out, HRL.out]
            have HPR : Hid (psR gr sSum bh bl rs l cs = ⟨[], [], []⟩) := by unfold Hid psR; rw [if_neg (by rw [HVB.out]; simp)]
            refine bodyPost_ret (v := .tuple #[.agg #[(.slice none 0 0), (.slice none 0 0), (.slice none 0 0)], .bool false]) (by simp [results, Try.results86, go_sem, r2_0, r2_1, r2_2]) rfl ⟨(by rw [HVB.out, HPR.out]; exact RetP.mk (OwnI.nil _ _) (OwnI.nil _ _) (OwnI.nil _ _)), HBF.out⟩
          | true =>
            have HA2 := Lib.hid hc5
            have Hhc5 := Lib.hid hc5
            clear hc5
            cases hc6 : ((cvn : Int) != 1) with
            | false =>
              obtain rfl : cvn = 1 := by have q := hc6; rw [bne_eq_false_iff_eq] at q; omega
              obtain ⟨cvb, cvo, rfl, hx⟩ := Hcv.out.at_ (by omega)
              have Kcv0 : Hid (w.cell? ⟨cvb, cvo, none⟩ = some (.int .i64 (nth cs 0))) := by unfold Hid; have h := hx 0 (by omega); simpa using h
              clear hx
              have ycv0 := box_at Kcv0.out (HB.out.trans (hc.mono HB.out.size))
              replace HCC : Hid (∀ u, Below W.heap.size W u → u.cell? ⟨w.heap.size, 0, none⟩ = some (.int .i64 gr.p) ∧ u.cell? ⟨w.heap.size, 1, none⟩ = some (.int .i64 gr.q) ∧ u.cell? ⟨w.heap.size, 2, none⟩ = some (.int .i64 gr.g) ∧ u.cell? ⟨w.heap.size + 1, 0, none⟩ = some (.int .i64 bh) ∧ u.cell? ⟨w.heap.size + 1, 1, none⟩ = some ((.slice bva bvn bvc)) ∧ u.cell? ⟨cvb, cvo, none⟩ = some (.int .i64 (nth cs 0))) := fun u h => by obtain ⟨c0_0, c0_1, c0_2, c1_0, c1_1⟩ := HCC.out u h; exact ⟨c0_0, c0_1, c0_2, c1_0, c1_1, box_at Kcv0.out (HB.out.trans (h.mono HB.out.size))⟩
              have HCL : Hid (decide (cs.length = 1) = true) := decide_eq_true Ecv.out
              go_wp2_with fail
              refine (spec_gExps gr _ cs _ HG.out (Hcv.out.below (HB.out.trans (hc.mono HB.out.size)))).mono ?_
              rintro e u5 ⟨rfl, hq5⟩
              replace hc := Below.next hc hq5
              clear hq5 c0_0 c0_1 c0_2 c1_0 c1_1 ycv0
              obtain ⟨c0_0, c0_1, c0_2, c1_0, c1_1, ycv0⟩ := HCC.out _ hc
              cases hc7 : cs.all (expB gr) with
              | false =>
                have Hhc7 := Lib.hid hc7
                clear hc7
                have HRE2 := Lib.hid (HR2.out.below hc)
                clear HR2
                have HBE := Lib.hid (HB.out.trans (hc.mono HB.out.size))
                have r2_0 := HRE2.out.cell (i := 0) rfl
                have r2_1 := HRE2.out.cell (i := 1) rfl
                have r2_2 := HRE2.out.cell (i := 2) rfl
                have fr2 := fun j => HRE2.out.frozen j
                go_wp2_with fail
                have HRF := Lib.hid (((HRE2.out.set 0 ((.slice none 0 0))).set 1 ((.slice none 0 0))).set 2 ((.slice none 0 0)))
                have HBF := Lib.hid (((HBE.out.setCell (p := ⟨w.heap.size + 1 + 1, 0, none⟩) (by show w.heap.size ≤ w.heap.size + 1 + 1; omega) ((.slice none 0 0))).setCell (p := ⟨w.heap.size + 1 + 1, 1, none⟩) (by show w.heap.size ≤ w.heap.size + 1 + 1; omega) ((.slice none 0 0))).setCell (p := ⟨w.heap.size + 1 + 1, 2, none⟩) (by show w.heap.size ≤ w.heap.size + 1 + 1; omega) ((.slice none 0 0)))
                clear r2_0 r2_1 r2_2 fr2
                have r2_0 := HRF.out.cell (i := 0) rfl
                have r2_1 := HRF.out.cell (i := 1) rfl
                have r2_2 := HRF.out.cell (i := 2) rfl
                try (go_wp2_with fail)
                have HVB : Hid (psB gr bh bl rs l cs = false) := by unfold Hid; simp [psB, Hhc1.out, hc2, hc3, Hhc4.out, Hhc5.out, hc6, Hhc7.out, HLC.out, HRL.out, HCL.out]
                have HPR : Hid (psR gr sSum bh bl rs l cs = ⟨[], [], []⟩) := by unfold Hid psR; rw [if_neg (by rw [HVB.out]; simp)]
                refine bodyPost_ret (v := .tuple #[.agg #[(.slice none 0 0), (.slice none 0 0), (.slice none 0 0)], .bool false]) (by simp [results, Try.results86, go_sem, r2_0, r2_1, r2_2]) rfl ⟨(by rw [HVB.out, HPR.out]; exact RetP.mk (OwnI.nil _ _) (OwnI.nil _ _) (OwnI.nil _ _)), HBF.out⟩
              | true =>
                have HA3 := Lib.hid hc7
                have zq1 := HG.out.q1
                have zq2 := HG.out.q2
                have zp2 := HG.out.p2
                have zq3 : gr.q ≤ 2000000000 := by omega
                have zq0 : 0 < gr.q := by omega
                have zq4 : gr.q ≤ 4000000000 := by omega
                have HBR := Lib.hid (exps_bd HA1.out)
                have HBL := Lib.hid (exps_bd HA2.out)
                obtain ⟨b1, b2⟩ := expB_bd (all_one Ecv.out HA3.out)
                obtain ⟨S, hS⟩ : ∃ x, sumM gr.q l = x := ⟨_, rfl⟩
                obtain ⟨R, hR⟩ : ∃ x, sumM gr.q rs = x := ⟨_, rfl⟩
                have HS := Lib.hid hS
                have HR := Lib.hid hR
                have qs := sumM_bd zq0 l
                have qr := sumM_bd zq0 rs
                rw [hS] at qs
                rw [hR] at qr
                obtain ⟨s1, s2⟩ := qs
                obtain ⟨r1, r2⟩ := qr
                have sS : Small S := ⟨by omega, by omega⟩
                have sR : Small R := ⟨by omega, by omega⟩
                obtain ⟨X, hX⟩ : ∃ x, powE gr bh (nth cs 0) = x := ⟨_, rfl⟩
                have HX := Lib.hid hX
                have sX : Small X := hX ▸ powE_small HG.out bh (nth cs 0)
                obtain ⟨C0, hC0⟩ : ∃ x, coM gr bh S R = x := ⟨_, rfl⟩
                have HC0 := Lib.hid hC0
                have sC0 : Small C0 := hC0 ▸ coM_small HG.out bh S R
                obtain ⟨E, hE⟩ : ∃ x, smE gr sSum bh C0 S X = x := ⟨_, rfl⟩
                have HE := Lib.hid hE
                have he := chV_bd HG.out sSum [bh, C0, S, X]
                obtain ⟨e1, e2⟩ : 0 ≤ E ∧ E < gr.q := hE ▸ he
                have iE : I64 E := ⟨by omega, by omega⟩
                have HAS : Hid (AllSmall [bh, C0, S, X]) := AllSmall.cons sbh (AllSmall.cons sC0 (AllSmall.cons sS (AllSmall.cons sX AllSmall.nil)))
                have HCB : Hid (chB gr sSum [bh, C0, S, X] = true) := chB_yes HG.out (digests_small HAS.out) (by decide) (by simp)
                have HCI : Hid (chI gr sSum [bh, C0, S, X] = E) := (chI_yes HCB.out).trans HE.out
                obtain ⟨pp1, pp2⟩ := mul_bnd (a := E) (b := R) (by omega) (by omega) (by omega) (by omega)
                have ewa1 : IntKind.i64.wrap (E * R) = E * R := IntWalk.i64_in _ (by omega)
                have ewb1 : IntKind.i64.wrap (nth cs 0 + E * R) = nth cs 0 + E * R := IntWalk.i64_in _ (by omega)
                have HN1 : Hid (I64 (nth cs 0 + E * R)) := ⟨by omega, by omega⟩
                clear pp1 pp2
                obtain ⟨Z1, hZ1⟩ : ∃ x, (nth cs 0 + E * R) % gr.q = x := ⟨_, rfl⟩
                have HZ1 := Lib.hid hZ1
                have iZ1 : I64 Z1 := by rw [← hZ1]; have z1 : 0 ≤ (nth cs 0 + E * R) % gr.q := Int.emod_nonneg _ (by omega); have z2 : (nth cs 0 + E * R) % gr.q < gr.q := Int.emod_lt_of_pos _ (by omega); exact ⟨by omega, by omega⟩
                clear hZ1 hS hR hX hC0 hE he
                have Hhc7 := Lib.hid hc7
                clear hc7
                have hszr := hc.size
                try (go_wp2_with fail)
                refine wp_region_noPanic ?_
                refine wp_region_P (fun w' => w'.cell? ⟨w.heap.size, 0, none⟩ = some (.int .i64 gr.p) ∧ w'.cell? ⟨w.heap.size, 1, none⟩ = some (.int .i64 gr.q) ∧ w'.cell? ⟨w.heap.size, 2, none⟩ = some (.int .i64 gr.g) ∧ w'.cell? ⟨w.heap.size + 1, 0, none⟩ = some (.int .i64 bh) ∧ w'.cell? ⟨w.heap.size + 1, 1, none⟩ = some ((.slice bva bvn bvc)) ∧ w'.cell? ⟨cvb, cvo, none⟩ = some (.int .i64 (nth cs 0))) 12 [(0, []), (1, []), (2, [0]), (3, [2, 0]), (4, []), (5, []), (6, [0]), (7, [2, 0]), (8, [4]), (9, [1])] [] (by kernel_rfl) (by kernel_rfl) (by kernel_rfl) rfl (fun _ _ _ _ h => h) (fun w' h => ⟨box_at c0_0 h, box_at c0_1 h, box_at c0_2 h, box_at c1_0 h, box_at c1_1 h, box_at ycv0 h⟩) ?_
                simp only [pickP, pickN, List.getElem?_cons_zero, List.getElem?_cons_succ]
                iterate 3 (refine' chainP_read _ rfl rfl (fun w' hS' => ?_) ?_; rotate_left; · (simp only [lookP, allP, Act.put, List.getElem?_cons_zero, List.getElem?_cons_succ, List.setIfInBounds_toArray, List.set_cons_zero, List.set_cons_succ]; (try dsimp only at hS'); go_simp; (try with_reducible rfl)))
                -- 3: call { callee := value (func 208), args := #[t57, t59], argTypes := #[24, 3] }
                refine chainP_call (d := (some 60)) (.int .i64 S) rfl rfl (fun w' hS' => ?_) ?_
                · simp only [lookP, allP, Act.put, List.getElem?_cons_zero, List.getElem?_cons_succ, List.setIfInBounds_toArray, List.set_cons_zero, List.set_cons_succ]
                  intro K hK
                  go_simp
                  go_at_call 208
                  refine (spec_nSum _ l gr.q _ ((Hlv.out.below (HB.out.trans (hc.mono HB.out.size))).below hS'.1) zq0 zq3 HBL.out).mono ?_
                  rintro e u ⟨rfl, rfl⟩
                  rw [HS.out]
                  exact hK.out _ (Below.refl _ _)
                iterate 3 (refine' chainP_read _ rfl rfl (fun w' hS' => ?_) ?_; rotate_left; · (simp only [lookP, allP, Act.put, List.getElem?_cons_zero, List.getElem?_cons_succ, List.setIfInBounds_toArray, List.set_cons_zero, List.set_cons_succ]; (try dsimp only at hS'); go_simp; (try with_reducible rfl)))
                -- 7: call { callee := value (func 208), args := #[t61, t63], argTypes := #[24, 3] }
                refine chainP_call (d := (some 64)) (.int .i64 R) rfl rfl (fun w' hS' => ?_) ?_
                · simp only [lookP, allP, Act.put, List.getElem?_cons_zero, List.getElem?_cons_succ, List.setIfInBounds_toArray, List.set_cons_zero, List.set_cons_succ]
                  intro K hK
                  go_simp
                  go_at_call 208
                  refine (spec_nSum _ rs gr.q _ ((Hrv.out.below (HB.out.trans (hc.mono HB.out.size))).below hS'.1) zq0 zq3 HBR.out).mono ?_
                  rintro e u ⟨rfl, rfl⟩
                  rw [HR.out]
                  exact hK.out _ (Below.refl _ _)
                iterate 2 (refine' chainP_read _ rfl rfl (fun w' hS' => ?_) ?_; rotate_left; · (simp only [lookP, allP, Act.put, List.getElem?_cons_zero, List.getElem?_cons_succ, List.setIfInBounds_toArray, List.set_cons_zero, List.set_cons_succ]; (try dsimp only at hS'); go_simp; (try with_reducible rfl)))
                refine chainP_nil (fun u6 hS' => ?_)
                simp only [allP, Act.put, List.setIfInBounds_toArray, List.set_cons_zero, List.set_cons_succ]
                have hq6 := hS'.1
                clear hS'
                replace hc := Below.next hc hq6
                clear hq6 c0_0 c0_1 c0_2 c1_0 c1_1 ycv0
                obtain ⟨c0_0, c0_1, c0_2, c1_0, c1_1, ycv0⟩ := HCC.out _ hc
                go_wp2_with fail
                refine NoPanic.normal ?_
                have hszr := hc.size
                try (go_wp2_with fail)
                refine wp_region_noPanic ?_
                refine wp_region_P (fun w' => w'.cell? ⟨w.heap.size, 0, none⟩ = some (.int .i64 gr.p) ∧ w'.cell? ⟨w.heap.size, 1, none⟩ = some (.int .i64 gr.q) ∧ w'.cell? ⟨w.heap.size, 2, none⟩ = some (.int .i64 gr.g) ∧ w'.cell? ⟨w.heap.size + 1, 0, none⟩ = some (.int .i64 bh) ∧ w'.cell? ⟨w.heap.size + 1, 1, none⟩ = some ((.slice bva bvn bvc)) ∧ w'.cell? ⟨cvb, cvo, none⟩ = some (.int .i64 (nth cs 0))) 10 [(0, []), (1, []), (2, [0]), (3, []), (4, [0]), (5, [0]), (6, [5, 3, 0]), (7, [0])] [] (by kernel_rfl) (by kernel_rfl) (by kernel_rfl) rfl (fun _ _ _ _ h => h) (fun w' h => ⟨box_at c0_0 h, box_at c0_1 h, box_at c0_2 h, box_at c1_0 h, box_at c1_1 h, box_at ycv0 h⟩) ?_
                simp only [pickP, pickN, List.getElem?_cons_zero, List.getElem?_cons_succ]
                iterate 6 (refine' chainP_read _ rfl rfl (fun w' hS' => ?_) ?_; rotate_left; · (simp only [lookP, allP, Act.put, List.getElem?_cons_zero, List.getElem?_cons_succ, List.setIfInBounds_toArray, List.set_cons_zero, List.set_cons_succ]; (try dsimp only at hS'); go_simp; (try with_reducible rfl)))
                -- 6: call { callee := value (func 156), args := #[t65, t67, t70], argTypes := #[39, 3, 3] }
                refine chainP_call (d := (some 71)) (.int .i64 X) rfl rfl (fun w' hS' => ?_) ?_
                · simp only [lookP, allP, Act.put, List.getElem?_cons_zero, List.getElem?_cons_succ, List.setIfInBounds_toArray, List.set_cons_zero, List.set_cons_succ]
                  intro K hK
                  go_simp
                  go_at_call 156
                  refine (spec_gExp gr bh (nth cs 0) _ HG.out sbh ⟨by omega, by omega⟩).mono ?_
                  rintro e u ⟨rfl, hq⟩
                  rw [HX.out]
                  exact hK.out _ hq
                -- 7: assign t71
                refine' chainP_read (d := (some 14)) _ rfl rfl (fun w' hS' => ?_) ?_; rotate_left
                · simp only [lookP, allP, Act.put, List.getElem?_cons_zero, List.getElem?_cons_succ, List.setIfInBounds_toArray, List.set_cons_zero, List.set_cons_succ]
                  (try dsimp only at hS')
                  go_simp
                  (try with_reducible rfl)
                refine chainP_nil (fun u7 hS' => ?_)
                simp only [allP, Act.put, List.setIfInBounds_toArray, List.set_cons_zero, List.set_cons_succ]
                have hq7 := hS'.1
                clear hS'
                replace hc := Below.next hc hq7
                clear hq7 c0_0 c0_1 c0_2 c1_0 c1_1 ycv0
                obtain ⟨c0_0, c0_1, c0_2, c1_0, c1_1, ycv0⟩ := HCC.out _ hc
                go_wp2_with fail
                refine NoPanic.normal ?_
                have hszr := hc.size
                try (go_wp2_with fail)
                refine wp_region_noPanic ?_
                refine wp_region_P (fun w' => w'.cell? ⟨w.heap.size, 0, none⟩ = some (.int .i64 gr.p) ∧ w'.cell? ⟨w.heap.size, 1, none⟩ = some (.int .i64 gr.q) ∧ w'.cell? ⟨w.heap.size, 2, none⟩ = some (.int .i64 gr.g) ∧ w'.cell? ⟨w.heap.size + 1, 0, none⟩ = some (.int .i64 bh) ∧ w'.cell? ⟨w.heap.size + 1, 1, none⟩ = some ((.slice bva bvn bvc)) ∧ w'.cell? ⟨cvb, cvo, none⟩ = some (.int .i64 (nth cs 0))) 13 [(0, []), (1, []), (2, []), (3, []), (4, []), (5, []), (6, [3, 2, 1, 0]), (7, []), (8, []), (9, [8, 7, 2, 1, 0]), (10, [0])] [] (by kernel_rfl) (by kernel_rfl) (by kernel_rfl) rfl (fun _ _ _ _ h => h) (fun w' h => ⟨box_at c0_0 h, box_at c0_1 h, box_at c0_2 h, box_at c1_0 h, box_at c1_1 h, box_at ycv0 h⟩) ?_
                simp only [pickP, pickN, List.getElem?_cons_zero, List.getElem?_cons_succ]
                iterate 6 (refine' chainP_read _ rfl rfl (fun w' hS' => ?_) ?_; rotate_left; · (simp only [lookP, allP, Act.put, List.getElem?_cons_zero, List.getElem?_cons_succ, List.setIfInBounds_toArray, List.set_cons_zero, List.set_cons_succ]; (try dsimp only at hS'); go_simp; (try with_reducible rfl)))
                -- 6: call { callee := value (func 173), args := #[t74, t75, t76, t77], argTypes := #[39, 79, 3, 3] }
                refine chainP_call (d := (some 78)) (.int .i64 C0) rfl rfl (fun w' hS' => ?_) ?_
                · simp only [lookP, allP, Act.put, List.getElem?_cons_zero, List.getElem?_cons_succ, List.setIfInBounds_toArray, List.set_cons_zero, List.set_cons_succ]
                  intro K hK
                  go_simp
                  go_at_call 173
                  refine (spec_pCommit gr bh _ bl S R _ HG.out ((Hbv.out.below (HB.out.trans (hc.mono HB.out.size))).below hS'.1) sbh (small_64 sS) (small_64 sR)).mono ?_
                  rintro e u ⟨rfl, hq⟩
                  rw [HC0.out]
                  exact hK.out _ hq
                iterate 2 (refine' chainP_read _ rfl rfl (fun w' hS' => ?_) ?_; rotate_left; · (simp only [lookP, allP, Act.put, List.getElem?_cons_zero, List.getElem?_cons_succ, List.setIfInBounds_toArray, List.set_cons_zero, List.set_cons_succ]; (try dsimp only at hS'); go_simp; (try with_reducible rfl)))
                -- 9: call { callee := value (func 209), args := #[t72, t73, t78, t79, t80], argTypes := #[39, 79, 3, 3, 3] }
                refine chainP_call (d := (some 81)) (.int .i64 E) rfl rfl (fun w' hS' => ?_) ?_
                · simp only [lookP, allP, Act.put, List.getElem?_cons_zero, List.getElem?_cons_succ, List.setIfInBounds_toArray, List.set_cons_zero, List.set_cons_succ]
                  intro K hK
                  go_simp
                  go_at_call 209
                  refine (spec_rSumChallenge gr bh _ bl C0 S X _ HG.out ((Hbv.out.below (HB.out.trans (hc.mono HB.out.size))).below hS'.1) sbh sC0 sS sX).mono ?_
                  rintro e u ⟨rfl, hq⟩
                  rw [HE.out]
                  exact hK.out _ hq
                -- 10: assign t81
                refine' chainP_read (d := (some 15)) _ rfl rfl (fun w' hS' => ?_) ?_; rotate_left
                · simp only [lookP, allP, Act.put, List.getElem?_cons_zero, List.getElem?_cons_succ, List.setIfInBounds_toArray, List.set_cons_zero, List.set_cons_succ]
                  (try dsimp only at hS')
                  go_simp
                  (try with_reducible rfl)
                refine chainP_nil (fun u8 hS' => ?_)
                simp only [allP, Act.put, List.setIfInBounds_toArray, List.set_cons_zero, List.set_cons_succ]
                have hq8 := hS'.1
                clear hS'
                replace hc := Below.next hc hq8
                clear hq8 c0_0 c0_1 c0_2 c1_0 c1_1 ycv0
                obtain ⟨c0_0, c0_1, c0_2, c1_0, c1_1, ycv0⟩ := HCC.out _ hc
                go_wp2_with fail
                refine NoPanic.normal ?_
                have hszr := hc.size
                try (go_wp2_with fail)
                refine wp_region_noPanic ?_
                refine wp_region_P (fun w' => w'.cell? ⟨w.heap.size, 0, none⟩ = some (.int .i64 gr.p) ∧ w'.cell? ⟨w.heap.size, 1, none⟩ = some (.int .i64 gr.q) ∧ w'.cell? ⟨w.heap.size, 2, none⟩ = some (.int .i64 gr.g) ∧ w'.cell? ⟨w.heap.size + 1, 0, none⟩ = some (.int .i64 bh) ∧ w'.cell? ⟨w.heap.size + 1, 1, none⟩ = some ((.slice bva bvn bvc)) ∧ w'.cell? ⟨cvb, cvo, none⟩ = some (.int .i64 (nth cs 0))) 20 [(0, []), (1, [0]), (2, []), (3, [0]), (4, []), (5, [0]), (6, [0]), (7, []), (8, []), (9, [1, 0]), (10, [3, 0]), (11, []), (12, [0]), (13, [2, 0]), (14, [0])] [15, 16, 17] (by kernel_rfl) (by kernel_rfl) (by kernel_rfl) rfl (fun _ _ _ _ h => h) (fun w' h => ⟨box_at c0_0 h, box_at c0_1 h, box_at c0_2 h, box_at c1_0 h, box_at c1_1 h, box_at ycv0 h⟩) ?_
                simp only [pickP, pickN, List.getElem?_cons_zero, List.getElem?_cons_succ]
                -- 0: move t14
                refine' chainP_read (d := (some 82)) _ rfl rfl (fun w' hS' => ?_) ?_; rotate_left
                · simp only [lookP, allP, Act.put, List.getElem?_cons_zero, List.getElem?_cons_succ, List.setIfInBounds_toArray, List.set_cons_zero, List.set_cons_succ]
                  (try dsimp only at hS')
                  go_simp
                  (try with_reducible rfl)
                -- 1: buildSlice 24 1 #[(0, t82)]
                refine chainP_do (d := (some 83)) (fun v u => OwnI u u8.heap.size v [X]) (fun v w1 w2 hw h => OwnI.below h hw) rfl rfl (fun w' hS' => ?_) ?_
                · simp only [lookP, allP, Act.put, List.getElem?_cons_zero, List.getElem?_cons_succ, List.setIfInBounds_toArray, List.set_cons_zero, List.set_cons_succ]
                  intro K hK
                  go_simp
                  have hsz0 := hS'.1.size
                  refine hK.out _ _ ((Below.refl _ _).alloc (Nat.le_refl _) _) ?_
                  exact OwnI.lit w' hsz0 (l := [X]) (AllI64.cons (small_64 sX) AllI64.nil) rfl (by simp [maxLen]) 1 rfl
                -- 2: move t15
                refine' chainP_read (d := (some 84)) _ rfl rfl (fun w' hS' => ?_) ?_; rotate_left
                · simp only [lookP, allP, Act.put, List.getElem?_cons_zero, List.getElem?_cons_succ, List.setIfInBounds_toArray, List.set_cons_zero, List.set_cons_succ]
                  (try dsimp only at hS')
                  go_simp
                  (try with_reducible rfl)
                -- 3: buildSlice 24 1 #[(0, t84)]
                refine chainP_do (d := (some 85)) (fun v u => OwnI u u8.heap.size v [E]) (fun v w1 w2 hw h => OwnI.below h hw) rfl rfl (fun w' hS' => ?_) ?_
                · simp only [lookP, allP, Act.put, List.getElem?_cons_zero, List.getElem?_cons_succ, List.setIfInBounds_toArray, List.set_cons_zero, List.set_cons_succ]
                  intro K hK
                  go_simp
                  have hsz0 := hS'.1.size
                  refine hK.out _ _ ((Below.refl _ _).alloc (Nat.le_refl _) _) ?_
                  exact OwnI.lit w' hsz0 (l := [E]) (AllI64.cons iE AllI64.nil) rfl (by simp [maxLen]) 1 rfl
                iterate 9 (refine' chainP_read _ rfl rfl (fun w' hS' => ?_) ?_; rotate_left; · (simp only [lookP, allP, Act.put, List.getElem?_cons_zero, List.getElem?_cons_succ, List.setIfInBounds_toArray, List.set_cons_zero, List.set_cons_succ]; (try dsimp only at hS'); go_simp; (try with_reducible rfl)))
                -- 13: call { callee := value (func 180), args := #[t92, t94], argTypes := #[3, 3] }
                refine chainP_call (d := (some 95)) (.int .i64 Z1) rfl rfl (fun w' hS' => ?_) ?_
                · simp only [lookP, allP, Act.put, List.getElem?_cons_zero, List.getElem?_cons_succ, List.setIfInBounds_toArray, List.set_cons_zero, List.set_cons_succ]
                  intro K hK
                  go_simp
                  go_at_call 180
                  refine (spec_nMod (nth cs 0 + E * R) gr.q _ HN1.out zq0 zq4).mono ?_
                  rintro e u ⟨rfl, rfl⟩
                  rw [HZ1.out]
                  exact hK.out _ (Below.refl _ _)
                -- 14: buildSlice 24 1 #[(0, t95)]
                refine chainP_do (d := (some 96)) (fun v u => OwnI u u8.heap.size v [Z1]) (fun v w1 w2 hw h => OwnI.below h hw) rfl rfl (fun w' hS' => ?_) ?_
                · simp only [lookP, allP, Act.put, List.getElem?_cons_zero, List.getElem?_cons_succ, List.setIfInBounds_toArray, List.set_cons_zero, List.set_cons_succ]
                  intro K hK
                  go_simp
                  have hsz0 := hS'.1.size
                  refine hK.out _ _ ((Below.refl _ _).alloc (Nat.le_refl _) _) ?_
                  exact OwnI.lit w' hsz0 (l := [Z1]) (AllI64.cons iZ1 AllI64.nil) rfl (by simp [maxLen]) 1 rfl
                refine chainP_nil (fun u9 hS' => ?_)
                simp only [allP, Act.put, List.setIfInBounds_toArray, List.set_cons_zero, List.set_cons_succ]
                intro x14 hx14
                intro x3 hx3
                intro x1 hx1
                have hq9 := hS'.1
                clear hS'
                replace hc := Below.next hc hq9
                clear hq9 c0_0 c0_1 c0_2 c1_0 c1_1 ycv0
                obtain ⟨c0_0, c0_1, c0_2, c1_0, c1_1, ycv0⟩ := HCC.out _ hc
                have HRE2 := Lib.hid (HR2.out.below hc)
                clear HR2
                have HBE := Lib.hid (HB.out.trans (hc.mono HB.out.size))
                have r2_0 := HRE2.out.cell (i := 0) rfl
                have r2_1 := HRE2.out.cell (i := 1) rfl
                have r2_2 := HRE2.out.cell (i := 2) rfl
                have fr2 := fun j => HRE2.out.frozen j
                obtain ⟨xa1, xc1, rfl⟩ := OwnI.shapeN (n := 1) hx1 rfl
                obtain ⟨xa3, xc3, rfl⟩ := OwnI.shapeN (n := 1) hx3 rfl
                obtain ⟨xa14, xc14, rfl⟩ := OwnI.shapeN (n := 1) hx14 rfl
                go_wp2_with fail
                refine NoPanic.normal ?_
                have HRF := Lib.hid (((HRE2.out.set 0 ((.slice xa1 1 xc1))).set 1 ((.slice xa3 1 xc3))).set 2 ((.slice xa14 1 xc14)))
                have HBF := Lib.hid (((HBE.out.setCell (p := ⟨w.heap.size + 1 + 1, 0, none⟩) (by show w.heap.size ≤ w.heap.size + 1 + 1; omega) ((.slice xa1 1 xc1))).setCell (p := ⟨w.heap.size + 1 + 1, 1, none⟩) (by show w.heap.size ≤ w.heap.size + 1 + 1; omega) ((.slice xa3 1 xc3))).setCell (p := ⟨w.heap.size + 1 + 1, 2, none⟩) (by show w.heap.size ≤ w.heap.size + 1 + 1; omega) ((.slice xa14 1 xc14)))
                clear r2_0 r2_1 r2_2 fr2
                have r2_0 := HRF.out.cell (i := 0) rfl
                have r2_1 := HRF.out.cell (i := 1) rfl
                have r2_2 := HRF.out.cell (i := 2) rfl
                try (go_wp2_with fail)
                have HVB : Hid (psB gr bh bl rs l cs = true) := by unfold Hid; simp [psB, Hhc1.out, hc2, hc3, Hhc4.out, Hhc5.out, hc6, Hhc7.out, HLC.out, HRL.out, HCL.out]
                have HPR : Hid (psR gr sSum bh bl rs l cs = ⟨[X], [E], [Z1]⟩) := by unfold Hid psR; rw [if_pos HVB.out]; unfold psD psE; rw [HS.out, HR.out, HX.out, HC0.out, HE.out, HZ1.out]
                refine bodyPost_ret (v := .tuple #[.agg #[(.slice xa1 1 xc1), (.slice xa3 1 xc3), (.slice xa14 1 xc14)], .bool true]) (by simp [results, Try.results86, go_sem, r2_0, r2_1, r2_2]) rfl ⟨(by rw [HVB.out, HPR.out]; exact RetP.mk ((((hx1.oth (b := w.heap.size + 1 + 1) (by omega) 0 ((.slice xa1 1 xc1))).oth (b := w.heap.size + 1 + 1) (by omega) 1 ((.slice xa3 1 xc3))).oth (b := w.heap.size + 1 + 1) (by omega) 2 ((.slice xa14 1 xc14))).mono (by omega)) ((((hx3.oth (b := w.heap.size + 1 + 1) (by omega) 0 ((.slice xa1 1 xc1))).oth (b := w.heap.size + 1 + 1) (by omega) 1 ((.slice xa3 1 xc3))).oth (b := w.heap.size + 1 + 1) (by omega) 2 ((.slice xa14 1 xc14))).mono (by omega)) ((((hx14.oth (b := w.heap.size + 1 + 1) (by omega) 0 ((.slice xa1 1 xc1))).oth (b := w.heap.size + 1 + 1) (by omega) 1 ((.slice xa3 1 xc3))).oth (b := w.heap.size + 1 + 1) (by omega) 2 ((.slice xa14 1 xc14))).mono (by omega))), HBF.out⟩
            | true =>
              have HCL : Hid (decide (cs.length = 1) = false) := by have q := hc6; rw [bne_iff_ne] at q; exact decide_eq_false (by have := Ecv.out; omega)
              have HRE2 := Lib.hid (HR2.out.below hc)
              clear HR2
              have HBE := Lib.hid (HB.out.trans (hc.mono HB.out.size))
              have r2_0 := HRE2.out.cell (i := 0) rfl
              have r2_1 := HRE2.out.cell (i := 1) rfl
              have r2_2 := HRE2.out.cell (i := 2) rfl
              have fr2 := fun j => HRE2.out.frozen j
              go_wp2_with fail
              have HRF := Lib.hid (((HRE2.out.set 0 ((.slice none 0 0))).set 1 ((.slice none 0 0))).set 2 ((.slice none 0 0)))
              have HBF := Lib.hid (((HBE.out.setCell (p := ⟨w.heap.size + 1 + 1, 0, none⟩) (by show w.heap.size ≤ w.heap.size + 1 + 1; omega) ((.slice none 0 0))).setCell (p := ⟨w.heap.size + 1 + 1, 1, none⟩) (by show w.heap.size ≤ w.heap.size + 1 + 1; omega) ((.slice none 0 0))).setCell (p := ⟨w.heap.size + 1 + 1, 2, none⟩) (by show w.heap.size ≤ w.heap.size + 1 + 1; omega) ((.slice none 0 0)))
              clear r2_0 r2_1 r2_2 fr2
              have r2_0 := HRF.out.cell (i := 0) rfl
              have r2_1 := HRF.out.cell (i := 1) rfl
              have r2_2 := HRF.out.cell (i := 2) rfl
              try (go_wp2_with fail)
              have HVB : Hid (psB gr bh bl rs l cs = false) := by unfold Hid; simp [psB, Hhc1.out, hc2, hc3, Hhc4.out, Hhc5.out, hc6, HLC.out, HRL.out, HCL.out]
              have HPR : Hid (psR gr sSum bh bl rs l cs = ⟨[], [], []⟩) := by unfold Hid psR; rw [if_neg (by rw [HVB.out]; simp)]
              refine bodyPost_ret (v := .tuple #[.agg #[(.slice none 0 0), (.slice none 0 0), (.slice none 0 0)], .bool false]) (by simp [results, Try.results86, go_sem, r2_0, r2_1, r2_2]) rfl ⟨(by rw [HVB.out, HPR.out]; exact RetP.mk (OwnI.nil _ _) (OwnI.nil _ _) (OwnI.nil _ _)), HBF.out⟩
      | true =>
        have HRL : Hid (decide (rs.length = l.length) = false) := by have q := hc3; rw [bne_iff_ne] at q; exact decide_eq_false (by have := Elv.out; have := Erv.out; omega)
        have hnat : ¬ rvn = lvn := by have q := hc3; rw [bne_iff_ne] at q; omega
        have HRE2 := Lib.hid (HR2.out.below hc)
        clear HR2
        have HBE := Lib.hid (HB.out.trans (hc.mono HB.out.size))
        have r2_0 := HRE2.out.cell (i := 0) rfl
        have r2_1 := HRE2.out.cell (i := 1) rfl
        have r2_2 := HRE2.out.cell (i := 2) rfl
        have fr2 := fun j => HRE2.out.frozen j
        go_wp2_with fail
        have HRF := Lib.hid (((HRE2.out.set 0 ((.slice none 0 0))).set 1 ((.slice none 0 0))).set 2 ((.slice none 0 0)))
        have HBF := Lib.hid (((HBE.out.setCell (p := ⟨w.heap.size + 1 + 1, 0, none⟩) (by show w.heap.size ≤ w.heap.size + 1 + 1; omega) ((.slice none 0 0))).setCell (p := ⟨w.heap.size + 1 + 1, 1, none⟩) (by show w.heap.size ≤ w.heap.size + 1 + 1; omega) ((.slice none 0 0))).setCell (p := ⟨w.heap.size + 1 + 1, 2, none⟩) (by show w.heap.size ≤ w.heap.size + 1 + 1; omega) ((.slice none 0 0)))
        clear r2_0 r2_1 r2_2 fr2
        have r2_0 := HRF.out.cell (i := 0) rfl
        have r2_1 := HRF.out.cell (i := 1) rfl
        have r2_2 := HRF.out.cell (i := 2) rfl
        try (go_wp2_with fail)
        have HVB : Hid (psB gr bh bl rs l cs = false) := by unfold Hid; simp [psB, Hhc1.out, hc2, hc3, HLC.out, HRL.out]
        have HPR : Hid (psR gr sSum bh bl rs l cs = ⟨[], [], []⟩) := by unfold Hid psR; rw [if_neg (by rw [HVB.out]; simp)]
        refine bodyPost_ret (v := .tuple #[.agg #[(.slice none 0 0), (.slice none 0 0), (.slice none 0 0)], .bool false]) (by simp [results, Try.results86, go_sem, r2_0, r2_1, r2_2]) rfl ⟨(by rw [HVB.out, HPR.out]; exact RetP.mk (OwnI.nil _ _) (OwnI.nil _ _) (OwnI.nil _ _)), HBF.out⟩
set_option maxRecDepth 100000 in
set_option maxHeartbeats 2000000 in
theorem impl_ProveSum (gr : GroupD) (bh : Int) (bv : Value) (bl : List Int) (rv : Value) (rs : List Int) (lv : Value) (l : List Int) (cv : Value) (cs : List Int) (w : World) (hb : Ints w bv bl) (ibh : I64 bh) (hrs : Ints w rv rs) (hl : Ints w lv l) (hcs : Ints w cv cs) :
    Calls Try.prog 85 #[.agg #[.int .i64 gr.p, .int .i64 gr.q, .int .i64 gr.g], .agg #[.int .i64 bh, bv], rv, lv, cv] w fun e w' => RetP e w' w.heap.size (psB gr bh bl rs l cs) (psR gr sSum bh bl rs l cs) ∧ Below w.heap.size w w' := by
  obtain ⟨bva, bvn, bvc, rfl⟩ := hb.shape
  have Ebv := Lib.hid hb.len
  have Kbv := Lib.hid hb.capMax
  have Hbv := Lib.hid hb
  clear hb
  obtain ⟨rva, rvn, rvc, rfl⟩ := hrs.shape
  have Erv := Lib.hid hrs.len
  have Krv := Lib.hid hrs.capMax
  have Hrv := Lib.hid hrs
  clear hrs
  obtain ⟨lva, lvn, lvc, rfl⟩ := hl.shape
  have Elv := Lib.hid hl.len
  have Klv := Lib.hid hl.capMax
  have Hlv := Lib.hid hl
  clear hl
  obtain ⟨cva, cvn, cvc, rfl⟩ := hcs.shape
  have Ecv := Lib.hid hcs.len
  have Kcv := Lib.hid hcs.capMax
  have Hcv := Lib.hid hcs
  clear hcs
  obtain ⟨W, hW⟩ : ∃ W, W = ((w.alloc (.cells #[.int .i64 gr.p, .int .i64 gr.q, .int .i64 gr.g] 39)).alloc (.cells #[.int .i64 bh, (.slice bva bvn bvc)] 79)).alloc (.cells #[(.slice none 0 0), (.slice none 0 0), (.slice none 0 0)] 42) := ⟨_, rfl⟩
  have HB : Hid (Below w.heap.size w W) := by unfold Hid; rw [hW]; (repeat (first | exact Below.refl _ _ | assumption | refine Below.drew ?_ | refine Below.alloc ?_ (by first | (simp; done) | (simp; omega)) _ | refine Below.setCell ?_ (by first | (simp; done) | (simp; omega)) _))
  have c0_0 : W.cell? ⟨w.heap.size, 0, none⟩ = some (.int .i64 gr.p) := by rw [hW]; simp [go_sem]
  have c0_1 : W.cell? ⟨w.heap.size, 1, none⟩ = some (.int .i64 gr.q) := by rw [hW]; simp [go_sem]
  have c0_2 : W.cell? ⟨w.heap.size, 2, none⟩ = some (.int .i64 gr.g) := by rw [hW]; simp [go_sem]
  have c1_0 : W.cell? ⟨w.heap.size + 1, 0, none⟩ = some (.int .i64 bh) := by rw [hW]; simp [go_sem]
  have c1_1 : W.cell? ⟨w.heap.size + 1, 1, none⟩ = some ((.slice bva bvn bvc)) := by rw [hW]; simp [go_sem]
  have HR2 : Hid (BoxN W (w.heap.size + 1 + 1) 42 [(.slice none 0 0), (.slice none 0 0), (.slice none 0 0)]) := by unfold Hid; rw [hW]; have h := (BoxN.new ((w.alloc (.cells #[.int .i64 gr.p, .int .i64 gr.q, .int .i64 gr.g] 39)).alloc (.cells #[.int .i64 bh, (.slice bva bvn bvc)] 79)) [(.slice none 0 0), (.slice none 0 0), (.slice none 0 0)] 42); simpa using h
  have HSW : Hid (W.heap.size = w.heap.size + 3) := by unfold Hid; rw [hW]; simp
  have lr2 : w.heap.size + 1 + 1 < W.heap.size := by have := HSW.out; omega
  go_enter Try.func85, Try.ntmps85
  go_wp2_with fail
  rw [← hW]
  have hse : w.heap.size + 1 + 1 + 1 = W.heap.size := by have := HSW.out; omega
  (try rw [hse])
  clear hse
  clear hW
  have hc : Below W.heap.size W W := Below.refl _ _
  have HCC : Hid (∀ u, Below W.heap.size W u → u.cell? ⟨w.heap.size, 0, none⟩ = some (.int .i64 gr.p) ∧ u.cell? ⟨w.heap.size, 1, none⟩ = some (.int .i64 gr.q) ∧ u.cell? ⟨w.heap.size, 2, none⟩ = some (.int .i64 gr.g) ∧ u.cell? ⟨w.heap.size + 1, 0, none⟩ = some (.int .i64 bh) ∧ u.cell? ⟨w.heap.size + 1, 1, none⟩ = some ((.slice bva bvn bvc))) := fun u h => ⟨box_at c0_0 h, box_at c0_1 h, box_at c0_2 h, box_at c1_0 h, box_at c1_1 h⟩
  cases hc1 : baB gr bh bl with
  | false =>
    have Hhc1 := Lib.hid hc1
    clear hc1
    have hszr := hc.size
    try (go_wp2_with fail)
    refine wp_region_noPanic ?_
    refine wp_region_P (fun w' => w'.cell? ⟨w.heap.size, 0, none⟩ = some (.int .i64 gr.p) ∧ w'.cell? ⟨w.heap.size, 1, none⟩ = some (.int .i64 gr.q) ∧ w'.cell? ⟨w.heap.size, 2, none⟩ = some (.int .i64 gr.g) ∧ w'.cell? ⟨w.heap.size + 1, 0, none⟩ = some (.int .i64 bh) ∧ w'.cell? ⟨w.heap.size + 1, 1, none⟩ = some ((.slice bva bvn bvc))) 34 [(0, []), (1, []), (2, [1, 0]), (3, [0]), (4, [0]), (5, [0]), (6, [0, 1]), (7, [0, 2]), (8, [0, 3]), (9, [4, 0]), (10, [0]), (11, [0]), (12, [0, 1]), (13, [2]), (14, [0, 3]), (15, [2, 0, 4]), (16, [5, 0]), (17, [0]), (18, [0]), (19, [0, 1]), (20, [0, 2]), (21, [3, 0]), (22, [0]), (23, [0]), (24, [1]), (25, [2]), (26, [3]), (27, [2, 1, 0, 4]), (28, [0, 5]), (29, [5, 0, 6]), (30, [0, 7]), (31, [8, 0])] [] (by kernel_rfl) (by kernel_rfl) (by kernel_rfl) rfl (fun _ _ _ _ h => h) (fun w' h => ⟨box_at c0_0 h, box_at c0_1 h, box_at c0_2 h, box_at c1_0 h, box_at c1_1 h⟩) ?_
    simp only [pickP, pickN, List.getElem?_cons_zero, List.getElem?_cons_succ]
    iterate 2 (refine' chainP_read _ rfl rfl (fun w' hS' => ?_) ?_; rotate_left; · (simp only [lookP, allP, Act.put, List.getElem?_cons_zero, List.getElem?_cons_succ, List.setIfInBounds_toArray, List.set_cons_zero, List.set_cons_succ]; (try dsimp only at hS'); go_simp; (try with_reducible rfl)))
    -- 2: call { callee := value (func 170), args := #[t17, t18], argTypes := #[39, 79] }
    refine chainP_call (d := (some 19)) (.bool false) rfl rfl (fun w' hS' => ?_) ?_
    · simp only [lookP, allP, Act.put, List.getElem?_cons_zero, List.getElem?_cons_succ, List.setIfInBounds_toArray, List.set_cons_zero, List.set_cons_succ]
      intro K hK
      go_simp
      go_at_call 170
      refine (impl_IsValidBases gr bh _ bl _ ((Hbv.out.below (HB.out.trans (hc.mono HB.out.size))).below hS'.1) ibh).mono ?_
      rintro e u ⟨rfl, hq⟩
      rw [Hhc1.out]
      exact hK.out _ hq
    iterate 2 (refine' chainP_read _ rfl rfl (fun w' hS' => ?_) ?_; rotate_left; · (simp only [lookP, allP, Act.put, List.getElem?_cons_zero, List.getElem?_cons_succ, List.setIfInBounds_toArray, List.set_cons_zero, List.set_cons_succ]; (try dsimp only at hS'); go_simp; (try with_reducible rfl)))
    -- 5: move t3
    refine chainP_skip (d := (some 22)) rfl (fun w' hS' => ?_) ?_
    · simp only [lookP, allP, Act.put, List.getElem?_cons_zero, List.getElem?_cons_succ, List.setIfInBounds_toArray, List.set_cons_zero, List.set_cons_succ]
      kernel_rfl
    -- 6: call { callee := builtin Builtin.len, args := #[t22], argTypes := #[24] }
    refine chainP_skip (d := (some 23)) rfl (fun w' hS' => ?_) ?_
    · simp only [lookP, allP, Act.put, List.getElem?_cons_zero, List.getElem?_cons_succ, List.setIfInBounds_toArray, List.set_cons_zero, List.set_cons_succ]
      kernel_rfl
    -- 7: call { callee := value (func 204), args := #[t23, const (int i64 1), const (int i64 24)], argTypes := #[3, 3, 3] }
    refine chainP_skip (d := (some 24)) rfl (fun w' hS' => ?_) ?_
    · simp only [lookP, allP, Act.put, List.getElem?_cons_zero, List.getElem?_cons_succ, List.setIfInBounds_toArray, List.set_cons_zero, List.set_cons_succ]
      kernel_rfl
    -- 8: unOp Unnot 4 t24
    refine chainP_skip (d := (some 25)) rfl (fun w' hS' => ?_) ?_
    · simp only [lookP, allP, Act.put, List.getElem?_cons_zero, List.getElem?_cons_succ, List.setIfInBounds_toArray, List.set_cons_zero, List.set_cons_succ]
      kernel_rfl
    iterate 2 (refine' chainP_read _ rfl rfl (fun w' hS' => ?_) ?_; rotate_left; · (simp only [lookP, allP, Act.put, List.getElem?_cons_zero, List.getElem?_cons_succ, List.setIfInBounds_toArray, List.set_cons_zero, List.set_cons_succ]; (try dsimp only at hS'); go_simp; (try with_reducible rfl)))
    -- 11: move t2
    refine chainP_skip (d := (some 28)) rfl (fun w' hS' => ?_) ?_
    · simp only [lookP, allP, Act.put, List.getElem?_cons_zero, List.getElem?_cons_succ, List.setIfInBounds_toArray, List.set_cons_zero, List.set_cons_succ]
      kernel_rfl
    -- 12: call { callee := builtin Builtin.len, args := #[t28], argTypes := #[24] }
    refine chainP_skip (d := (some 29)) rfl (fun w' hS' => ?_) ?_
    · simp only [lookP, allP, Act.put, List.getElem?_cons_zero, List.getElem?_cons_succ, List.setIfInBounds_toArray, List.set_cons_zero, List.set_cons_succ]
      kernel_rfl
    -- 13: move t3
    refine chainP_skip (d := (some 30)) rfl (fun w' hS' => ?_) ?_
    · simp only [lookP, allP, Act.put, List.getElem?_cons_zero, List.getElem?_cons_succ, List.setIfInBounds_toArray, List.set_cons_zero, List.set_cons_succ]
      kernel_rfl
    -- 14: call { callee := builtin Builtin.len, args := #[t30], argTypes := #[24] }
    refine chainP_skip (d := (some 31)) rfl (fun w' hS' => ?_) ?_
    · simp only [lookP, allP, Act.put, List.getElem?_cons_zero, List.getElem?_cons_succ, List.setIfInBounds_toArray, List.set_cons_zero, List.set_cons_succ]
      kernel_rfl
    -- 15: binOp Binneq 3 t29 t31 3
    refine chainP_skip (d := (some 32)) rfl (fun w' hS' => ?_) ?_
    · simp only [lookP, allP, Act.put, List.getElem?_cons_zero, List.getElem?_cons_succ, List.setIfInBounds_toArray, List.set_cons_zero, List.set_cons_succ]
      kernel_rfl
    iterate 2 (refine' chainP_read _ rfl rfl (fun w' hS' => ?_) ?_; rotate_left; · (simp only [lookP, allP, Act.put, List.getElem?_cons_zero, List.getElem?_cons_succ, List.setIfInBounds_toArray, List.set_cons_zero, List.set_cons_succ]; (try dsimp only at hS'); go_simp; (try with_reducible rfl)))
    -- 18: move t4
    refine chainP_skip (d := (some 35)) rfl (fun w' hS' => ?_) ?_
    · simp only [lookP, allP, Act.put, List.getElem?_cons_zero, List.getElem?_cons_succ, List.setIfInBounds_toArray, List.set_cons_zero, List.set_cons_succ]
      kernel_rfl
    -- 19: call { callee := builtin Builtin.len, args := #[t35], argTypes := #[24] }
    refine chainP_skip (d := (some 36)) rfl (fun w' hS' => ?_) ?_
    · simp only [lookP, allP, Act.put, List.getElem?_cons_zero, List.getElem?_cons_succ, List.setIfInBounds_toArray, List.set_cons_zero, List.set_cons_succ]
      kernel_rfl
    -- 20: binOp Binneq 3 t36 (const (int i64 1)) 3
    refine chainP_skip (d := (some 37)) rfl (fun w' hS' => ?_) ?_
    · simp only [lookP, allP, Act.put, List.getElem?_cons_zero, List.getElem?_cons_succ, List.setIfInBounds_toArray, List.set_cons_zero, List.set_cons_succ]
      kernel_rfl
    iterate 2 (refine' chainP_read _ rfl rfl (fun w' hS' => ?_) ?_; rotate_left; · (simp only [lookP, allP, Act.put, List.getElem?_cons_zero, List.getElem?_cons_succ, List.setIfInBounds_toArray, List.set_cons_zero, List.set_cons_succ]; (try dsimp only at hS'); go_simp; (try with_reducible rfl)))
    -- 23: load 39 t5
    refine chainP_skip (d := (some 40)) rfl (fun w' hS' => ?_) ?_
    · simp only [lookP, allP, Act.put, List.getElem?_cons_zero, List.getElem?_cons_succ, List.setIfInBounds_toArray, List.set_cons_zero, List.set_cons_succ]
      kernel_rfl
    -- 24: move t2
    refine chainP_skip (d := (some 41)) rfl (fun w' hS' => ?_) ?_
    · simp only [lookP, allP, Act.put, List.getElem?_cons_zero, List.getElem?_cons_succ, List.setIfInBounds_toArray, List.set_cons_zero, List.set_cons_succ]
      kernel_rfl
    -- 25: move t3
    refine chainP_skip (d := (some 42)) rfl (fun w' hS' => ?_) ?_
    · simp only [lookP, allP, Act.put, List.getElem?_cons_zero, List.getElem?_cons_succ, List.setIfInBounds_toArray, List.set_cons_zero, List.set_cons_succ]
      kernel_rfl
    -- 26: move t4
    refine chainP_skip (d := (some 43)) rfl (fun w' hS' => ?_) ?_
    · simp only [lookP, allP, Act.put, List.getElem?_cons_zero, List.getElem?_cons_succ, List.setIfInBounds_toArray, List.set_cons_zero, List.set_cons_succ]
      kernel_rfl
    -- 27: buildSlice 233 3 #[(0, t41), (1, t42), (2, t43)]
    refine chainP_skip (d := (some 44)) rfl (fun w' hS' => ?_) ?_
    · simp only [lookP, allP, Act.put, List.getElem?_cons_zero, List.getElem?_cons_succ, List.setIfInBounds_toArray, List.set_cons_zero, List.set_cons_succ]
      kernel_rfl
    -- 28: call { callee := value (func 205), args := #[t44], argTypes := #[233] }
    refine chainP_skip (d := (some 45)) rfl (fun w' hS' => ?_) ?_
    · simp only [lookP, allP, Act.put, List.getElem?_cons_zero, List.getElem?_cons_succ, List.setIfInBounds_toArray, List.set_cons_zero, List.set_cons_succ]
      kernel_rfl
    -- 29: call { callee := value (func 140), args := #[t40, t45], argTypes := #[39, 24] }
    refine chainP_skip (d := (some 46)) rfl (fun w' hS' => ?_) ?_
    · simp only [lookP, allP, Act.put, List.getElem?_cons_zero, List.getElem?_cons_succ, List.setIfInBounds_toArray, List.set_cons_zero, List.set_cons_succ]
      kernel_rfl
    -- 30: unOp Unnot 4 t46
    refine chainP_skip (d := (some 47)) rfl (fun w' hS' => ?_) ?_
    · simp only [lookP, allP, Act.put, List.getElem?_cons_zero, List.getElem?_cons_succ, List.setIfInBounds_toArray, List.set_cons_zero, List.set_cons_succ]
      kernel_rfl
    -- 31: pick t39 (const (bool true)) t47
    refine' chainP_read (d := (some 48)) _ rfl rfl (fun w' hS' => ?_) ?_; rotate_left
    · simp only [lookP, allP, Act.put, List.getElem?_cons_zero, List.getElem?_cons_succ, List.setIfInBounds_toArray, List.set_cons_zero, List.set_cons_succ]
      (try dsimp only at hS')
      go_simp
      (try with_reducible rfl)
    refine chainP_nil (fun u1 hS' => ?_)
    simp only [allP, Act.put, List.setIfInBounds_toArray, List.set_cons_zero, List.set_cons_succ]
    have hq1 := hS'.1
    clear hS'
    replace hc := Below.next hc hq1
    clear hq1 c0_0 c0_1 c0_2 c1_0 c1_1
    obtain ⟨c0_0, c0_1, c0_2, c1_0, c1_1⟩ := HCC.out _ hc
    go_wp2_with fail
    refine NoPanic.normal ?_
    have HRE2 := Lib.hid (HR2.out.below hc)
    clear HR2
    have HBE := Lib.hid (HB.out.trans (hc.mono HB.out.size))
    have r2_0 := HRE2.out.cell (i := 0) rfl
    have r2_1 := HRE2.out.cell (i := 1) rfl
    have r2_2 := HRE2.out.cell (i := 2) rfl
    have fr2 := fun j => HRE2.out.frozen j
    go_wp2_with fail
    have HRF := Lib.hid (((HRE2.out.set 0 ((.slice none 0 0))).set 1 ((.slice none 0 0))).set 2 ((.slice none 0 0)))
    have HBF := Lib.hid (((HBE.out.setCell (p := ⟨w.heap.size + 1 + 1, 0, none⟩) (by show w.heap.size ≤ w.heap.size + 1 + 1; omega) ((.slice none 0 0))).setCell (p := ⟨w.heap.size + 1 + 1, 1, none⟩) (by show w.heap.size ≤ w.heap.size + 1 + 1; omega) ((.slice none 0 0))).setCell (p := ⟨w.heap.size + 1 + 1, 2, none⟩) (by show w.heap.size ≤ w.heap.size + 1 + 1; omega) ((.slice none 0 0)))
    clear r2_0 r2_1 r2_2 fr2
    have r2_0 := HRF.out.cell (i := 0) rfl
    have r2_1 := HRF.out.cell (i := 1) rfl
    have r2_2 := HRF.out.cell (i := 2) rfl
    try (go_wp2_with fail)
    have HVB : Hid (psB gr bh bl rs l cs = false) := by unfold Hid; simp [psB, Hhc1.out]
    have HPR : Hid (psR gr sSum bh bl rs l cs = ⟨[], [], []⟩) := by unfold Hid psR; rw [if_neg (by rw [HVB.out]; simp)]
    refine bodyPost_ret (v := .tuple #[.agg #[(.slice none 0 0), (.slice none 0 0), (.slice none 0 0)], .bool false]) (by simp [results, Try.results85, go_sem, r2_0, r2_1, r2_2]) rfl ⟨(by rw [HVB.out, HPR.out]; exact RetP.mk (OwnI.nil _ _) (OwnI.nil _ _) (OwnI.nil _ _)), HBF.out⟩
  | true =>
    have HBA := Lib.hid (baB_parts hc1)
    have HG := Lib.hid (goodG_ok HBA.out.1)
    have sbh : Small bh := elB_small HG.out HBA.out.2.1
    have Hhc1 := Lib.hid hc1
    clear hc1
    cases hc2 : decide (1 ≤ (lvn : Int) ∧ (lvn : Int) ≤ 24) with
    | false =>
      have HLC : Hid (decide (1 ≤ l.length ∧ l.length ≤ 24) = false) := by have q : ¬ (1 ≤ (lvn : Int) ∧ (lvn : Int) ≤ 24) := of_decide_eq_false hc2; exact decide_eq_false (by have := Elv.out; omega)
      have hszr := hc.size
      try (go_wp2_with fail)
      refine wp_region_noPanic ?_
      refine wp_region_P (fun w' => w'.cell? ⟨w.heap.size, 0, none⟩ = some (.int .i64 gr.p) ∧ w'.cell? ⟨w.heap.size, 1, none⟩ = some (.int .i64 gr.q) ∧ w'.cell? ⟨w.heap.size, 2, none⟩ = some (.int .i64 gr.g) ∧ w'.cell? ⟨w.heap.size + 1, 0, none⟩ = some (.int .i64 bh) ∧ w'.cell? ⟨w.heap.size + 1, 1, none⟩ = some ((.slice bva bvn bvc))) 34 [(0, []), (1, []), (2, [1, 0]), (3, [0]), (4, [0]), (5, [0]), (6, [0, 1]), (7, [0, 2]), (8, [0, 3]), (9, [4, 0]), (10, [0]), (11, [0]), (12, [0, 1]), (13, [2]), (14, [0, 3]), (15, [2, 0, 4]), (16, [5, 0]), (17, [0]), (18, [0]), (19, [0, 1]), (20, [0, 2]), (21, [3, 0]), (22, [0]), (23, [0]), (24, [1]), (25, [2]), (26, [3]), (27, [2, 1, 0, 4]), (28, [0, 5]), (29, [5, 0, 6]), (30, [0, 7]), (31, [8, 0])] [] (by kernel_rfl) (by kernel_rfl) (by kernel_rfl) rfl (fun _ _ _ _ h => h) (fun w' h => ⟨box_at c0_0 h, box_at c0_1 h, box_at c0_2 h, box_at c1_0 h, box_at c1_1 h⟩) ?_
      simp only [pickP, pickN, List.getElem?_cons_zero, List.getElem?_cons_succ]
      iterate 2 (refine' chainP_read _ rfl rfl (fun w' hS' => ?_) ?_; rotate_left; · (simp only [lookP, allP, Act.put, List.getElem?_cons_zero, List.getElem?_cons_succ, List.setIfInBounds_toArray, List.set_cons_zero, List.set_cons_succ]; (try dsimp only at hS'); go_simp; (try with_reducible rfl)))
      -- 2: call { callee := value (func 170), args := #[t17, t18], argTypes := #[39, 79] }
      refine chainP_call (d := (some 19)) (.bool true) rfl rfl (fun w' hS' => ?_) ?_
      · simp only [lookP, allP, Act.put, List.getElem?_cons_zero, List.getElem?_cons_succ, List.setIfInBounds_toArray, List.set_cons_zero, List.set_cons_succ]
        intro K hK
        go_simp
        go_at_call 170
        refine (impl_IsValidBases gr bh _ bl _ ((Hbv.out.below (HB.out.trans (hc.mono HB.out.size))).below hS'.1) ibh).mono ?_
        rintro e u ⟨rfl, hq⟩
        rw [Hhc1.out]
        exact hK.out _ hq
      iterate 2 (refine' chainP_read _ rfl rfl (fun w' hS' => ?_) ?_; rotate_left; · (simp only [lookP, allP, Act.put, List.getElem?_cons_zero, List.getElem?_cons_succ, List.setIfInBounds_toArray, List.set_cons_zero, List.set_cons_succ]; (try dsimp only at hS'); go_simp; (try with_reducible rfl)))
      -- 5: move t3
      refine' chainP_readG (d := (some 22)) _ rfl (fun w' hS' => ?_) ?_; rotate_left
      · simp only [lookP, allP, Act.put, List.getElem?_cons_zero, List.getElem?_cons_succ, List.setIfInBounds_toArray, List.set_cons_zero, List.set_cons_succ]
        refine ⟨by kernel_rfl, ?_⟩
        (try dsimp only at hS')
        go_simp
        (try with_reducible rfl)
      -- 6: call { callee := builtin Builtin.len, args := #[t22], argTypes := #[24] }
      refine' chainP_readG (d := (some 23)) _ rfl (fun w' hS' => ?_) ?_; rotate_left
      · simp only [lookP, allP, Act.put, List.getElem?_cons_zero, List.getElem?_cons_succ, List.setIfInBounds_toArray, List.set_cons_zero, List.set_cons_succ]
        refine ⟨by kernel_rfl, ?_⟩
        (try dsimp only at hS')
        go_simp
        (try with_reducible rfl)
      -- 7: call { callee := value (func 204), args := #[t23, const (int i64 1), const (int i64 24)], argTypes := #[3, 3, 3] }
      refine chainP_callG (d := (some 24)) (.bool false) rfl (fun w' hS' => ?_) ?_
      · simp only [lookP, allP, Act.put, List.getElem?_cons_zero, List.getElem?_cons_succ, List.setIfInBounds_toArray, List.set_cons_zero, List.set_cons_succ]
        refine ⟨by kernel_rfl, ?_⟩
        intro K hK
        go_simp
        go_at_call 204
        refine (impl_within (lvn : Int) 1 24 _).mono ?_
        rintro e u ⟨rfl, rfl⟩
        rw [hc2]
        exact hK.out _ (Below.refl _ _)
      -- 8: unOp Unnot 4 t24
      refine' chainP_readG (d := (some 25)) _ rfl (fun w' hS' => ?_) ?_; rotate_left
      · simp only [lookP, allP, Act.put, List.getElem?_cons_zero, List.getElem?_cons_succ, List.setIfInBounds_toArray, List.set_cons_zero, List.set_cons_succ]
        refine ⟨by kernel_rfl, ?_⟩
        (try dsimp only at hS')
        go_simp
        (try with_reducible rfl)
      iterate 2 (refine' chainP_read _ rfl rfl (fun w' hS' => ?_) ?_; rotate_left; · (simp only [lookP, allP, Act.put, List.getElem?_cons_zero, List.getElem?_cons_succ, List.setIfInBounds_toArray, List.set_cons_zero, List.set_cons_succ]; (try dsimp only at hS'); go_simp; (try with_reducible rfl)))
      -- 11: move t2
      refine chainP_skip (d := (some 28)) rfl (fun w' hS' => ?_) ?_
      · simp only [lookP, allP, Act.put, List.getElem?_cons_zero, List.getElem?_cons_succ, List.setIfInBounds_toArray, List.set_cons_zero, List.set_cons_succ]
        kernel_rfl
      -- 12: call { callee := builtin Builtin.len, args := #[t28], argTypes := #[24] }
      refine chainP_skip (d := (some 29)) rfl (fun w' hS' => ?_) ?_
      · simp only [lookP, allP, Act.put, List.getElem?_cons_zero, List.getElem?_cons_succ, List.setIfInBounds_toArray, List.set_cons_zero, List.set_cons_succ]
        kernel_rfl
      -- 13: move t3
      refine chainP_skip (d := (some 30)) rfl (fun w' hS' => ?_) ?_
      · simp only [lookP, allP, Act.put, List.getElem?_cons_zero, List.getElem?_cons_succ, List.setIfInBounds_toArray, List.set_cons_zero, List.set_cons_succ]
        kernel_rfl
      -- 14: call { callee := builtin Builtin.len, args := #[t30], argTypes := #[24] }
      refine chainP_skip (d := (some 31)) rfl (fun w' hS' => ?_) ?_
      · simp only [lookP, allP, Act.put, List.getElem?_cons_zero, List.getElem?_cons_succ, List.setIfInBounds_toArray, List.set_cons_zero, List.set_cons_succ]
        kernel_rfl
      -- 15: binOp Binneq 3 t29 t31 3
      refine chainP_skip (d := (some 32)) rfl (fun w' hS' => ?_) ?_
      · simp only [lookP, allP, Act.put, List.getElem?_cons_zero, List.getElem?_cons_succ, List.setIfInBounds_toArray, List.set_cons_zero, List.set_cons_succ]
        kernel_rfl
      iterate 2 (refine' chainP_read _ rfl rfl (fun w' hS' => ?_) ?_; rotate_left; · (simp only [lookP, allP, Act.put, List.getElem?_cons_zero, List.getElem?_cons_succ, List.setIfInBounds_toArray, List.set_cons_zero, List.set_cons_succ]; (try dsimp only at hS'); go_simp; (try with_reducible rfl)))
      -- 18: move t4
      refine chainP_skip (d := (some 35)) rfl (fun w' hS' => ?_) ?_
      · simp only [lookP, allP, Act.put, List.getElem?_cons_zero, List.getElem?_cons_succ, List.setIfInBounds_toArray, List.set_cons_zero, List.set_cons_succ]
        kernel_rfl
      -- 19: call { callee := builtin Builtin.len, args := #[t35], argTypes := #[24] }
      refine chainP_skip (d := (some 36)) rfl (fun w' hS' => ?_) ?_
      · simp only [lookP, allP, Act.put, List.getElem?_cons_zero, List.getElem?_cons_succ, List.setIfInBounds_toArray, List.set_cons_zero, List.set_cons_succ]
        kernel_rfl
      -- 20: binOp Binneq 3 t36 (const (int i64 1)) 3
      refine chainP_skip (d := (some 37)) rfl (fun w' hS' => ?_) ?_
      · simp only [lookP, allP, Act.put, List.getElem?_cons_zero, List.getElem?_cons_succ, List.setIfInBounds_toArray, List.set_cons_zero, List.set_cons_succ]
        kernel_rfl
      iterate 2 (refine' chainP_read _ rfl rfl (fun w' hS' => ?_) ?_; rotate_left; · (simp only [lookP, allP, Act.put, List.getElem?_cons_zero, List.getElem?_cons_succ, List.setIfInBounds_toArray, List.set_cons_zero, List.set_cons_succ]; (try dsimp only at hS'); go_simp; (try with_reducible rfl)))
      -- 23: load 39 t5
      refine chainP_skip (d := (some 40)) rfl (fun w' hS' => ?_) ?_
      · simp only [lookP, allP, Act.put, List.getElem?_cons_zero, List.getElem?_cons_succ, List.setIfInBounds_toArray, List.set_cons_zero, List.set_cons_succ]
        kernel_rfl
      -- 24: move t2
      refine chainP_skip (d := (some 41)) rfl (fun w' hS' => ?_) ?_
      · simp only [lookP, allP, Act.put, List.getElem?_cons_zero, List.getElem?_cons_succ, List.setIfInBounds_toArray, List.set_cons_zero, List.set_cons_succ]
        kernel_rfl
      -- 25: move t3
      refine chainP_skip (d := (some 42)) rfl (fun w' hS' => ?_) ?_
      · simp only [lookP, allP, Act.put, List.getElem?_cons_zero, List.getElem?_cons_succ, List.setIfInBounds_toArray, List.set_cons_zero, List.set_cons_succ]
        kernel_rfl
      -- 26: move t4
      refine chainP_skip (d := (some 43)) rfl (fun w' hS' => ?_) ?_
      · simp only [lookP, allP, Act.put, List.getElem?_cons_zero, List.getElem?_cons_succ, List.setIfInBounds_toArray, List.set_cons_zero, List.set_cons_succ]
        kernel_rfl
      -- 27: buildSlice 233 3 #[(0, t41), (1, t42), (2, t43)]
      refine chainP_skip (d := (some 44)) rfl (fun w' hS' => ?_) ?_
      · simp only [lookP, allP, Act.put, List.getElem?_cons_zero, List.getElem?_cons_succ, List.setIfInBounds_toArray, List.set_cons_zero, List.set_cons_succ]
        kernel_rfl
      -- 28: call { callee := value (func 205), args := #[t44], argTypes := #[233] }
      refine chainP_skip (d := (some 45)) rfl (fun w' hS' => ?_) ?_
      · simp only [lookP, allP, Act.put, List.getElem?_cons_zero, List.getElem?_cons_succ, List.setIfInBounds_toArray, List.set_cons_zero, List.set_cons_succ]
        kernel_rfl
      -- 29: call { callee := value (func 140), args := #[t40, t45], argTypes := #[39, 24] }
      refine chainP_skip (d := (some 46)) rfl (fun w' hS' => ?_) ?_
      · simp only [lookP, allP, Act.put, List.getElem?_cons_zero, List.getElem?_cons_succ, List.setIfInBounds_toArray, List.set_cons_zero, List.set_cons_succ]
        kernel_rfl
      -- 30: unOp Unnot 4 t46
      refine chainP_skip (d := (some 47)) rfl (fun w' hS' => ?_) ?_
      · simp only [lookP, allP, Act.put, List.getElem?_cons_zero, List.getElem?_cons_succ, List.setIfInBounds_toArray, List.set_cons_zero, List.set_cons_succ]
        kernel_rfl
      -- 31: pick t39 (const (bool true)) t47
      refine' chainP_read (d := (some 48)) _ rfl rfl (fun w' hS' => ?_) ?_; rotate_left
      · simp only [lookP, allP, Act.put, List.getElem?_cons_zero, List.getElem?_cons_succ, List.setIfInBounds_toArray, List.set_cons_zero, List.set_cons_succ]
        (try dsimp only at hS')
        go_simp
        (try with_reducible rfl)
      refine chainP_nil (fun u1 hS' => ?_)
      simp only [allP, Act.put, List.setIfInBounds_toArray, List.set_cons_zero, List.set_cons_succ]
      have hq1 := hS'.1
      clear hS'
      replace hc := Below.next hc hq1
      clear hq1 c0_0 c0_1 c0_2 c1_0 c1_1
      obtain ⟨c0_0, c0_1, c0_2, c1_0, c1_1⟩ := HCC.out _ hc
      go_wp2_with fail
      refine NoPanic.normal ?_
      have HRE2 := Lib.hid (HR2.out.below hc)
      clear HR2
      have HBE := Lib.hid (HB.out.trans (hc.mono HB.out.size))
      have r2_0 := HRE2.out.cell (i := 0) rfl
      have r2_1 := HRE2.out.cell (i := 1) rfl
      have r2_2 := HRE2.out.cell (i := 2) rfl
      have fr2 := fun j => HRE2.out.frozen j
      go_wp2_with fail
      have HRF := Lib.hid (((HRE2.out.set 0 ((.slice none 0 0))).set 1 ((.slice none 0 0))).set 2 ((.slice none 0 0)))
      have HBF := Lib.hid (((HBE.out.setCell (p := ⟨w.heap.size + 1 + 1, 0, none⟩) (by show w.heap.size ≤ w.heap.size + 1 + 1; omega) ((.slice none 0 0))).setCell (p := ⟨w.heap.size + 1 + 1, 1, none⟩) (by show w.heap.size ≤ w.heap.size + 1 + 1; omega) ((.slice none 0 0))).setCell (p := ⟨w.heap.size + 1 + 1, 2, none⟩) (by show w.heap.size ≤ w.heap.size + 1 + 1; omega) ((.slice none 0 0)))
      clear r2_0 r2_1 r2_2 fr2
      have r2_0 := HRF.out.cell (i := 0) rfl
      have r2_1 := HRF.out.cell (i := 1) rfl
      have r2_2 := HRF.out.cell (i := 2) rfl
      try (go_wp2_with fail)
      have HVB : Hid (psB gr bh bl rs l cs = false) := by unfold Hid; simp [psB, Hhc1.out, hc2, HLC.out]
      have HPR : Hid (psR gr sSum bh bl rs l cs = ⟨[], [], []⟩) := by unfold Hid psR; rw [if_neg (by rw [HVB.out]; simp)]
      refine bodyPost_ret (v := .tuple #[.agg #[(.slice none 0 0), (.slice none 0 0), (.slice none 0 0)], .bool false]) (by simp [results, Try.results85, go_sem, r2_0, r2_1, r2_2]) rfl ⟨(by rw [HVB.out, HPR.out]; exact RetP.mk (OwnI.nil _ _) (OwnI.nil _ _) (OwnI.nil _ _)), HBF.out⟩
    | true =>
      have HLC : Hid (decide (1 ≤ l.length ∧ l.length ≤ 24) = true) := by have q : 1 ≤ (lvn : Int) ∧ (lvn : Int) ≤ 24 := of_decide_eq_true hc2; exact decide_eq_true (by have := Elv.out; omega)
      have hl24 : lvn ≤ 24 := by have q : 1 ≤ (lvn : Int) ∧ (lvn : Int) ≤ 24 := of_decide_eq_true hc2; omega
      cases hc3 : ((rvn : Int) != (lvn : Int)) with
      | false =>
        have HRL : Hid (decide (rs.length = l.length) = true) := by have q := hc3; rw [bne_eq_false_iff_eq] at q; exact decide_eq_true (by have := Elv.out; have := Erv.out; omega)
        have hnat : rvn ≤ lvn := by have q := hc3; rw [bne_eq_false_iff_eq] at q; omega
        cases hc4 : ((cvn : Int) != 1) with
        | false =>
          obtain rfl : cvn = 1 := by have q := hc4; rw [bne_eq_false_iff_eq] at q; omega
          obtain ⟨cvb, cvo, rfl, hx⟩ := Hcv.out.at_ (by omega)
          have Kcv0 : Hid (w.cell? ⟨cvb, cvo, none⟩ = some (.int .i64 (nth cs 0))) := by unfold Hid; have h := hx 0 (by omega); simpa using h
          clear hx
          have ycv0 := box_at Kcv0.out (HB.out.trans (hc.mono HB.out.size))
          replace HCC : Hid (∀ u, Below W.heap.size W u → u.cell? ⟨w.heap.size, 0, none⟩ = some (.int .i64 gr.p) ∧ u.cell? ⟨w.heap.size, 1, none⟩ = some (.int .i64 gr.q) ∧ u.cell? ⟨w.heap.size, 2, none⟩ = some (.int .i64 gr.g) ∧ u.cell? ⟨w.heap.size + 1, 0, none⟩ = some (.int .i64 bh) ∧ u.cell? ⟨w.heap.size + 1, 1, none⟩ = some ((.slice bva bvn bvc)) ∧ u.cell? ⟨cvb, cvo, none⟩ = some (.int .i64 (nth cs 0))) := fun u h => by obtain ⟨c0_0, c0_1, c0_2, c1_0, c1_1⟩ := HCC.out u h; exact ⟨c0_0, c0_1, c0_2, c1_0, c1_1, box_at Kcv0.out (HB.out.trans (h.mono HB.out.size))⟩
          have HCL : Hid (decide (cs.length = 1) = true) := decide_eq_true Ecv.out
          cases hc5 : [rs, l, cs].flatten.all (expB gr) with
          | false =>
            have HAF : Hid ((rs.all (expB gr) && (l.all (expB gr) && cs.all (expB gr))) = false) := by unfold Hid; rw [← all_3]; exact hc5
            have Hhc5 := Lib.hid hc5
            clear hc5
            have hszr := hc.size
            try (go_wp2_with fail)
            refine wp_region_noPanic ?_
            refine wp_region_P (fun w' => w'.cell? ⟨w.heap.size, 0, none⟩ = some (.int .i64 gr.p) ∧ w'.cell? ⟨w.heap.size, 1, none⟩ = some (.int .i64 gr.q) ∧ w'.cell? ⟨w.heap.size, 2, none⟩ = some (.int .i64 gr.g) ∧ w'.cell? ⟨w.heap.size + 1, 0, none⟩ = some (.int .i64 bh) ∧ w'.cell? ⟨w.heap.size + 1, 1, none⟩ = some ((.slice bva bvn bvc)) ∧ w'.cell? ⟨cvb, cvo, none⟩ = some (.int .i64 (nth cs 0))) 34 [(0, []), (1, []), (2, [1, 0]), (3, [0]), (4, [0]), (5, [0]), (6, [0, 1]), (7, [0, 2]), (8, [0, 3]), (9, [4, 0]), (10, [0]), (11, [0]), (12, [0, 1]), (13, [2]), (14, [0, 3]), (15, [2, 0, 4]), (16, [5, 0]), (17, [0]), (18, [0]), (19, [0, 1]), (20, [0, 2]), (21, [3, 0]), (22, [0]), (23, [0]), (24, [1]), (25, [2]), (26, [3]), (27, [2, 1, 0, 4]), (28, [0, 5]), (29, [5, 0, 6]), (30, [0, 7]), (31, [8, 0])] [] (by kernel_rfl) (by kernel_rfl) (by kernel_rfl) rfl (fun _ _ _ _ h => h) (fun w' h => ⟨box_at c0_0 h, box_at c0_1 h, box_at c0_2 h, box_at c1_0 h, box_at c1_1 h, box_at ycv0 h⟩) ?_
            simp only [pickP, pickN, List.getElem?_cons_zero, List.getElem?_cons_succ]
            iterate 2 (refine' chainP_read _ rfl rfl (fun w' hS' => ?_) ?_; rotate_left; · (simp only [lookP, allP, Act.put, List.getElem?_cons_zero, List.getElem?_cons_succ, List.setIfInBounds_toArray, List.set_cons_zero, List.set_cons_succ]; (try dsimp only at hS'); go_simp; (try with_reducible rfl)))
            -- 2: call { callee := value (func 170), args := #[t17, t18], argTypes := #[39, 79] }
            refine chainP_call (d := (some 19)) (.bool true) rfl rfl (fun w' hS' => ?_) ?_
            · simp only [lookP, allP, Act.put, List.getElem?_cons_zero, List.getElem?_cons_succ, List.setIfInBounds_toArray, List.set_cons_zero, List.set_cons_succ]
              intro K hK
              go_simp
              go_at_call 170
              refine (impl_IsValidBases gr bh _ bl _ ((Hbv.out.below (HB.out.trans (hc.mono HB.out.size))).below hS'.1) ibh).mono ?_
              rintro e u ⟨rfl, hq⟩
              rw [Hhc1.out]
              exact hK.out _ hq
            iterate 2 (refine' chainP_read _ rfl rfl (fun w' hS' => ?_) ?_; rotate_left; · (simp only [lookP, allP, Act.put, List.getElem?_cons_zero, List.getElem?_cons_succ, List.setIfInBounds_toArray, List.set_cons_zero, List.set_cons_succ]; (try dsimp only at hS'); go_simp; (try with_reducible rfl)))
            -- 5: move t3
            refine' chainP_readG (d := (some 22)) _ rfl (fun w' hS' => ?_) ?_; rotate_left
            · simp only [lookP, allP, Act.put, List.getElem?_cons_zero, List.getElem?_cons_succ, List.setIfInBounds_toArray, List.set_cons_zero, List.set_cons_succ]
              refine ⟨by kernel_rfl, ?_⟩
              (try dsimp only at hS')
              go_simp
              (try with_reducible rfl)
            -- 6: call { callee := builtin Builtin.len, args := #[t22], argTypes := #[24] }
            refine' chainP_readG (d := (some 23)) _ rfl (fun w' hS' => ?_) ?_; rotate_left
            · simp only [lookP, allP, Act.put, List.getElem?_cons_zero, List.getElem?_cons_succ, List.setIfInBounds_toArray, List.set_cons_zero, List.set_cons_succ]
              refine ⟨by kernel_rfl, ?_⟩
              (try dsimp only at hS')
              go_simp
              (try with_reducible rfl)
            -- 7: call { callee := value (func 204), args := #[t23, const (int i64 1), const (int i64 24)], argTypes := #[3, 3, 3] }
            refine chainP_callG (d := (some 24)) (.bool true) rfl (fun w' hS' => ?_) ?_
            · simp only [lookP, allP, Act.put, List.getElem?_cons_zero, List.getElem?_cons_succ, List.setIfInBounds_toArray, List.set_cons_zero, List.set_cons_succ]
              refine ⟨by kernel_rfl, ?_⟩
              intro K hK
              go_simp
              go_at_call 204
              refine (impl_within (lvn : Int) 1 24 _).mono ?_
              rintro e u ⟨rfl, rfl⟩
              rw [hc2]
              exact hK.out _ (Below.refl _ _)
            -- 8: unOp Unnot 4 t24
            refine' chainP_readG (d := (some 25)) _ rfl (fun w' hS' => ?_) ?_; rotate_left
            · simp only [lookP, allP, Act.put, List.getElem?_cons_zero, List.getElem?_cons_succ, List.setIfInBounds_toArray, List.set_cons_zero, List.set_cons_succ]
              refine ⟨by kernel_rfl, ?_⟩
              (try dsimp only at hS')
              go_simp
              (try with_reducible rfl)
            iterate 2 (refine' chainP_read _ rfl rfl (fun w' hS' => ?_) ?_; rotate_left; · (simp only [lookP, allP, Act.put, List.getElem?_cons_zero, List.getElem?_cons_succ, List.setIfInBounds_toArray, List.set_cons_zero, List.set_cons_succ]; (try dsimp only at hS'); go_simp; (try with_reducible rfl)))
            -- 11: move t2
            refine' chainP_readG (d := (some 28)) _ rfl (fun w' hS' => ?_) ?_; rotate_left
            · simp only [lookP, allP, Act.put, List.getElem?_cons_zero, List.getElem?_cons_succ, List.setIfInBounds_toArray, List.set_cons_zero, List.set_cons_succ]
              refine ⟨by kernel_rfl, ?_⟩
              (try dsimp only at hS')
              go_simp
              (try with_reducible rfl)
            -- 12: call { callee := builtin Builtin.len, args := #[t28], argTypes := #[24] }
            refine' chainP_readG (d := (some 29)) _ rfl (fun w' hS' => ?_) ?_; rotate_left
            · simp only [lookP, allP, Act.put, List.getElem?_cons_zero, List.getElem?_cons_succ, List.setIfInBounds_toArray, List.set_cons_zero, List.set_cons_succ]
              refine ⟨by kernel_rfl, ?_⟩
              (try dsimp only at hS')
              go_simp
              (try with_reducible rfl)
            -- 13: move t3
            refine' chainP_readG (d := (some 30)) _ rfl (fun w' hS' => ?_) ?_; rotate_left
            · simp only [lookP, allP, Act.put, List.getElem?_cons_zero, List.getElem?_cons_succ, List.setIfInBounds_toArray, List.set_cons_zero, List.set_cons_succ]
              refine ⟨by kernel_rfl, ?_⟩
              (try dsimp only at hS')
              go_simp
              (try with_reducible rfl)
            -- 14: call { callee := builtin Builtin.len, args := #[t30], argTypes := #[24] }
            refine' chainP_readG (d := (some 31)) _ rfl (fun w' hS' => ?_) ?_; rotate_left
            · simp only [lookP, allP, Act.put, List.getElem?_cons_zero, List.getElem?_cons_succ, List.setIfInBounds_toArray, List.set_cons_zero, List.set_cons_succ]
              refine ⟨by kernel_rfl, ?_⟩
              (try dsimp only at hS')
              go_simp
              (try with_reducible rfl)
            -- 15: binOp Binneq 3 t29 t31 3
            refine' chainP_readG (d := (some 32)) _ rfl (fun w' hS' => ?_) ?_; rotate_left
            · simp only [lookP, allP, Act.put, List.getElem?_cons_zero, List.getElem?_cons_succ, List.setIfInBounds_toArray, List.set_cons_zero, List.set_cons_succ]
              refine ⟨by kernel_rfl, ?_⟩
              (try dsimp only at hS')
              go_simp
              (try with_reducible rfl)
            iterate 2 (refine' chainP_read _ rfl rfl (fun w' hS' => ?_) ?_; rotate_left; · (simp only [lookP, allP, Act.put, List.getElem?_cons_zero, List.getElem?_cons_succ, List.setIfInBounds_toArray, List.set_cons_zero, List.set_cons_succ]; (try dsimp only at hS'); go_simp; (try with_reducible rfl)))
            -- 18: move t4
            refine' chainP_readG (d := (some 35)) _ rfl (fun w' hS' => ?_) ?_; rotate_left
            · simp only [lookP, allP, Act.put, List.getElem?_cons_zero, List.getElem?_cons_succ, List.setIfInBounds_toArray, List.set_cons_zero, List.set_cons_succ]
              refine ⟨by kernel_rfl, ?_⟩
              (try dsimp only at hS')
              go_simp
              (try with_reducible rfl)
            -- 19: call { callee := builtin Builtin.len, args := #[t35], argTypes := #[24] }
            refine' chainP_readG (d := (some 36)) _ rfl (fun w' hS' => ?_) ?_; rotate_left
            · simp only [lookP, allP, Act.put, List.getElem?_cons_zero, List.getElem?_cons_succ, List.setIfInBounds_toArray, List.set_cons_zero, List.set_cons_succ]
              refine ⟨by kernel_rfl, ?_⟩
              (try dsimp only at hS')
              go_simp
              (try with_reducible rfl)
            -- 20: binOp Binneq 3 t36 (const (int i64 1)) 3
            refine' chainP_readG (d := (some 37)) _ rfl (fun w' hS' => ?_) ?_; rotate_left
            · simp only [lookP, allP, Act.put, List.getElem?_cons_zero, List.getElem?_cons_succ, List.setIfInBounds_toArray, List.set_cons_zero, List.set_cons_succ]
              refine ⟨by kernel_rfl, ?_⟩
              (try dsimp only at hS')
              go_simp
              (try with_reducible rfl)
            iterate 2 (refine' chainP_read _ rfl rfl (fun w' hS' => ?_) ?_; rotate_left; · (simp only [lookP, allP, Act.put, List.getElem?_cons_zero, List.getElem?_cons_succ, List.setIfInBounds_toArray, List.set_cons_zero, List.set_cons_succ]; (try dsimp only at hS'); go_simp; (try with_reducible rfl)))
            -- 23: load 39 t5
            refine' chainP_readG (d := (some 40)) _ rfl (fun w' hS' => ?_) ?_; rotate_left
            · simp only [lookP, allP, Act.put, List.getElem?_cons_zero, List.getElem?_cons_succ, List.setIfInBounds_toArray, List.set_cons_zero, List.set_cons_succ]
              refine ⟨by kernel_rfl, ?_⟩
              (try dsimp only at hS')
              go_simp
              (try with_reducible rfl)
            -- 24: move t2
            refine' chainP_readG (d := (some 41)) _ rfl (fun w' hS' => ?_) ?_; rotate_left
            · simp only [lookP, allP, Act.put, List.getElem?_cons_zero, List.getElem?_cons_succ, List.setIfInBounds_toArray, List.set_cons_zero, List.set_cons_succ]
              refine ⟨by kernel_rfl, ?_⟩
              (try dsimp only at hS')
              go_simp
              (try with_reducible rfl)
            -- 25: move t3
            refine' chainP_readG (d := (some 42)) _ rfl (fun w' hS' => ?_) ?_; rotate_left
            · simp only [lookP, allP, Act.put, List.getElem?_cons_zero, List.getElem?_cons_succ, List.setIfInBounds_toArray, List.set_cons_zero, List.set_cons_succ]
              refine ⟨by kernel_rfl, ?_⟩
              (try dsimp only at hS')
              go_simp
              (try with_reducible rfl)
            -- 26: move t4
            refine' chainP_readG (d := (some 43)) _ rfl (fun w' hS' => ?_) ?_; rotate_left
            · simp only [lookP, allP, Act.put, List.getElem?_cons_zero, List.getElem?_cons_succ, List.setIfInBounds_toArray, List.set_cons_zero, List.set_cons_succ]
              refine ⟨by kernel_rfl, ?_⟩
              (try dsimp only at hS')
              go_simp
              (try with_reducible rfl)
            -- 27: buildSlice 233 3 #[(0, t41), (1, t42), (2, t43)]
            refine chainP_doG (d := (some 44)) (fun v u => RdL kInts u v [rs, l, cs]) (fun v w1 w2 hw h => kRows.rd_below h hw) rfl (fun w' hS' => ?_) ?_
            · simp only [lookP, allP, Act.put, List.getElem?_cons_zero, List.getElem?_cons_succ, List.setIfInBounds_toArray, List.set_cons_zero, List.set_cons_succ]
              refine ⟨by kernel_rfl, ?_⟩
              intro K hK
              go_simp
              refine hK.out _ _ ((Below.refl _ _).alloc (Nat.le_refl _) _) ?_
              exact rd3s (((Hrv.out.below (HB.out.trans (hc.mono HB.out.size)))).below (hS'.1.alloc hS'.1.size _)) (((Hlv.out.below (HB.out.trans (hc.mono HB.out.size)))).below (hS'.1.alloc hS'.1.size _)) (((Hcv.out.below (HB.out.trans (hc.mono HB.out.size)))).below (hS'.1.alloc hS'.1.size _))
            -- 28: call { callee := value (func 205), args := #[t44], argTypes := #[233] }
            refine chainP_doG (d := (some 45)) (fun v u => Ints u v [rs, l, cs].flatten) (fun v w1 w2 hw h => Ints.below h hw) rfl (fun w' hS' => ?_) ?_
            · simp only [lookP, allP, Act.put, List.getElem?_cons_zero, List.getElem?_cons_succ, List.setIfInBounds_toArray, List.set_cons_zero, List.set_cons_succ]
              intro x27 hx27
              refine ⟨by kernel_rfl, ?_⟩
              intro K hK
              go_simp
              go_at_call 205
              refine (slices_Concat _ [rs, l, cs] _ hx27 (by rw [total3]; have := Erv.out; have := Elv.out; have := Ecv.out; omega)).mono ?_
              rintro e u ⟨v2, rfl, hown, hq⟩
              exact hK.out _ _ hq hown.ints
            -- 29: call { callee := value (func 140), args := #[t40, t45], argTypes := #[39, 24] }
            refine chainP_callG (d := (some 46)) (.bool false) rfl (fun w' hS' => ?_) ?_
            · simp only [lookP, allP, Act.put, List.getElem?_cons_zero, List.getElem?_cons_succ, List.setIfInBounds_toArray, List.set_cons_zero, List.set_cons_succ]
              intro x28 hx28
              refine ⟨by kernel_rfl, ?_⟩
              intro K hK
              go_simp
              go_at_call 140
              refine (impl_areExps gr _ [rs, l, cs].flatten _ HG.out hx28).mono ?_
              rintro e u ⟨rfl, hq⟩
              rw [Hhc5.out]
              exact hK.out _ hq
            -- 30: unOp Unnot 4 t46
            refine' chainP_readG (d := (some 47)) _ rfl (fun w' hS' => ?_) ?_; rotate_left
            · simp only [lookP, allP, Act.put, List.getElem?_cons_zero, List.getElem?_cons_succ, List.setIfInBounds_toArray, List.set_cons_zero, List.set_cons_succ]
              refine ⟨by kernel_rfl, ?_⟩
              (try dsimp only at hS')
              go_simp
              (try with_reducible rfl)
            -- 31: pick t39 (const (bool true)) t47
            refine' chainP_read (d := (some 48)) _ rfl rfl (fun w' hS' => ?_) ?_; rotate_left
            · simp only [lookP, allP, Act.put, List.getElem?_cons_zero, List.getElem?_cons_succ, List.setIfInBounds_toArray, List.set_cons_zero, List.set_cons_succ]
              (try dsimp only at hS')
              go_simp
              (try with_reducible rfl)
            refine chainP_nil (fun u1 hS' => ?_)
            simp only [allP, Act.put, List.setIfInBounds_toArray, List.set_cons_zero, List.set_cons_succ]
            intro x28 hx28
            intro x27 hx27
            have hq1 := hS'.1
            clear hS'
            replace hc := Below.next hc hq1
            clear hq1 c0_0 c0_1 c0_2 c1_0 c1_1 ycv0
            obtain ⟨c0_0, c0_1, c0_2, c1_0, c1_1, ycv0⟩ := HCC.out _ hc
            go_wp2_with fail
            refine NoPanic.normal ?_
            have HRE2 := Lib.hid (HR2.out.below hc)
            clear HR2
            have HBE := Lib.hid (HB.out.trans (hc.mono HB.out.size))
            have r2_0 := HRE2.out.cell (i := 0) rfl
            have r2_1 := HRE2.out.cell (i := 1) rfl
            have r2_2 := HRE2.out.cell (i := 2) rfl
            have fr2 := fun j => HRE2.out.frozen j
            go_wp2_with fail
            have HRF := Lib.hid (((HRE2.out.set 0 ((.slice none 0 0))).set 1 ((.slice none 0 0))).set 2 ((.slice none 0 0)))
            have HBF := Lib.hid (((HBE.out.setCell (p := ⟨w.heap.size + 1 + 1, 0, none⟩) (by show w.heap.size ≤ w.heap.size + 1 + 1; omega) ((.slice none 0 0))).setCell (p := ⟨w.heap.size + 1 + 1, 1, none⟩) (by show w.heap.size ≤ w.heap.size + 1 + 1; omega) ((.slice none 0 0))).setCell (p := ⟨w.heap.size + 1 + 1, 2, none⟩) (by show w.heap.size ≤ w.heap.size + 1 + 1; omega) ((.slice none 0 0)))
            clear r2_0 r2_1 r2_2 fr2
            have r2_0 := HRF.out.cell (i := 0) rfl
            have r2_1 := HRF.out.cell (i := 1) rfl
            have r2_2 := HRF.out.cell (i := 2) rfl
            try (go_wp2_with fail)
            have HVB : Hid (psB gr bh bl rs l cs = false) := by unfold Hid; unfold psB; rw [HAF.out]; simp
            have HPR : Hid (psR gr sSum bh bl rs l cs = ⟨[], [], []⟩) := by unfold Hid psR; rw [if_neg (by rw [HVB.out]; simp)]
            refine bodyPost_ret (v := .tuple #[.agg #[(.slice none 0 0), (.slice none 0 0), (.slice none 0 0)], .bool false]) (by simp [results, Try.results85, go_sem, r2_0, r2_1, r2_2]) rfl ⟨(by rw [HVB.out, HPR.out]; exact RetP.mk (OwnI.nil _ _) (OwnI.nil _ _) (OwnI.nil _ _)), HBF.out⟩
          | true =>
            have h3 := hc5
            rw [all_3, Bool.and_eq_true, Bool.and_eq_true] at h3
            have HA1 := Lib.hid h3.1
            have HA2 := Lib.hid h3.2.1
            have HA3 := Lib.hid h3.2.2
            clear h3
            have zq1 := HG.out.q1
            have zq2 := HG.out.q2
            have zp2 := HG.out.p2
            have zq3 : gr.q ≤ 2000000000 := by omega
            have zq0 : 0 < gr.q := by omega
            have zq4 : gr.q ≤ 4000000000 := by omega
            have HBR := Lib.hid (exps_bd HA1.out)
            have HBL := Lib.hid (exps_bd HA2.out)
            obtain ⟨b1, b2⟩ := expB_bd (all_one Ecv.out HA3.out)
            obtain ⟨S, hS⟩ : ∃ x, sumM gr.q l = x := ⟨_, rfl⟩
            obtain ⟨R, hR⟩ : ∃ x, sumM gr.q rs = x := ⟨_, rfl⟩
            have HS := Lib.hid hS
            have HR := Lib.hid hR
            have qs := sumM_bd zq0 l
            have qr := sumM_bd zq0 rs
            rw [hS] at qs
            rw [hR] at qr
            obtain ⟨s1, s2⟩ := qs
            obtain ⟨r1, r2⟩ := qr
            have sS : Small S := ⟨by omega, by omega⟩
            have sR : Small R := ⟨by omega, by omega⟩
            obtain ⟨X, hX⟩ : ∃ x, powE gr bh (nth cs 0) = x := ⟨_, rfl⟩
            have HX := Lib.hid hX
            have sX : Small X := hX ▸ powE_small HG.out bh (nth cs 0)
            obtain ⟨C0, hC0⟩ : ∃ x, coM gr bh S R = x := ⟨_, rfl⟩
            have HC0 := Lib.hid hC0
            have sC0 : Small C0 := hC0 ▸ coM_small HG.out bh S R
            obtain ⟨E, hE⟩ : ∃ x, smE gr sSum bh C0 S X = x := ⟨_, rfl⟩
            have HE := Lib.hid hE
            have he := chV_bd HG.out sSum [bh, C0, S, X]
            obtain ⟨e1, e2⟩ : 0 ≤ E ∧ E < gr.q := hE ▸ he
            have iE : I64 E := ⟨by omega, by omega⟩
            have HAS : Hid (AllSmall [bh, C0, S, X]) := AllSmall.cons sbh (AllSmall.cons sC0 (AllSmall.cons sS (AllSmall.cons sX AllSmall.nil)))
            have HCB : Hid (chB gr sSum [bh, C0, S, X] = true) := chB_yes HG.out (digests_small HAS.out) (by decide) (by simp)
            have HCI : Hid (chI gr sSum [bh, C0, S, X] = E) := (chI_yes HCB.out).trans HE.out
            obtain ⟨pp1, pp2⟩ := mul_bnd (a := E) (b := R) (by omega) (by omega) (by omega) (by omega)
            have ewa1 : IntKind.i64.wrap (E * R) = E * R := IntWalk.i64_in _ (by omega)
            have ewb1 : IntKind.i64.wrap (nth cs 0 + E * R) = nth cs 0 + E * R := IntWalk.i64_in _ (by omega)
            have HN1 : Hid (I64 (nth cs 0 + E * R)) := ⟨by omega, by omega⟩
            clear pp1 pp2
            obtain ⟨Z1, hZ1⟩ : ∃ x, (nth cs 0 + E * R) % gr.q = x := ⟨_, rfl⟩
            have HZ1 := Lib.hid hZ1
            have iZ1 : I64 Z1 := by rw [← hZ1]; have z1 : 0 ≤ (nth cs 0 + E * R) % gr.q := Int.emod_nonneg _ (by omega); have z2 : (nth cs 0 + E * R) % gr.q < gr.q := Int.emod_lt_of_pos _ (by omega); exact ⟨by omega, by omega⟩
            clear hZ1 hS hR hX hC0 hE he
            have Hhc5 := Lib.hid hc5
            clear hc5
            have hszr := hc.size
            try (go_wp2_with fail)
            refine wp_region_noPanic ?_
            refine wp_region_P (fun w' => w'.cell? ⟨w.heap.size, 0, none⟩ = some (.int .i64 gr.p) ∧ w'.cell? ⟨w.heap.size, 1, none⟩ = some (.int .i64 gr.q) ∧ w'.cell? ⟨w.heap.size, 2, none⟩ = some (.int .i64 gr.g) ∧ w'.cell? ⟨w.heap.size + 1, 0, none⟩ = some (.int .i64 bh) ∧ w'.cell? ⟨w.heap.size + 1, 1, none⟩ = some ((.slice bva bvn bvc)) ∧ w'.cell? ⟨cvb, cvo, none⟩ = some (.int .i64 (nth cs 0))) 34 [(0, []), (1, []), (2, [1, 0]), (3, [0]), (4, [0]), (5, [0]), (6, [0, 1]), (7, [0, 2]), (8, [0, 3]), (9, [4, 0]), (10, [0]), (11, [0]), (12, [0, 1]), (13, [2]), (14, [0, 3]), (15, [2, 0, 4]), (16, [5, 0]), (17, [0]), (18, [0]), (19, [0, 1]), (20, [0, 2]), (21, [3, 0]), (22, [0]), (23, [0]), (24, [1]), (25, [2]), (26, [3]), (27, [2, 1, 0, 4]), (28, [0, 5]), (29, [5, 0, 6]), (30, [0, 7]), (31, [8, 0])] [] (by kernel_rfl) (by kernel_rfl) (by kernel_rfl) rfl (fun _ _ _ _ h => h) (fun w' h => ⟨box_at c0_0 h, box_at c0_1 h, box_at c0_2 h, box_at c1_0 h, box_at c1_1 h, box_at ycv0 h⟩) ?_
            simp only [pickP, pickN, List.getElem?_cons_zero, List.getElem?_cons_succ]
            iterate 2 (refine' chainP_read _ rfl rfl (fun w' hS' => ?_) ?_; rotate_left; · (simp only [lookP, allP, Act.put, List.getElem?_cons_zero, List.getElem?_cons_succ, List.setIfInBounds_toArray, List.set_cons_zero, List.set_cons_succ]; (try dsimp only at hS'); go_simp; (try with_reducible rfl)))
            -- 2: call { callee := value (func 170), args := #[t17, t18], argTypes := #[39, 79] }
            refine chainP_call (d := (some 19)) (.bool true) rfl rfl (fun w' hS' => ?_) ?_
            · simp only [lookP, allP, Act.put, List.getElem?_cons_zero, List.getElem?_cons_succ, List.setIfInBounds_toArray, List.set_cons_zero, List.set_cons_succ]
              intro K hK
              go_simp
              go_at_call 170
              refine (impl_IsValidBases gr bh _ bl _ ((Hbv.out.below (HB.out.trans (hc.mono HB.out.size))).below hS'.1) ibh).mono ?_
              rintro e u ⟨rfl, hq⟩
              rw [Hhc1.out]
              exact hK.out _ hq
            iterate 2 (refine' chainP_read _ rfl rfl (fun w' hS' => ?_) ?_; rotate_left; · (simp only [lookP, allP, Act.put, List.getElem?_cons_zero, List.getElem?_cons_succ, List.setIfInBounds_toArray, List.set_cons_zero, List.set_cons_succ]; (try dsimp only at hS'); go_simp; (try with_reducible rfl)))
            -- 5: move t3
            refine' chainP_readG (d := (some 22)) _ rfl (fun w' hS' => ?_) ?_; rotate_left
            · simp only [lookP, allP, Act.put, List.getElem?_cons_zero, List.getElem?_cons_succ, List.setIfInBounds_toArray, List.set_cons_zero, List.set_cons_succ]
              refine ⟨by kernel_rfl, ?_⟩
              (try dsimp only at hS')
              go_simp
              (try with_reducible rfl)
            -- 6: call { callee := builtin Builtin.len, args := #[t22], argTypes := #[24] }
            refine' chainP_readG (d := (some 23)) _ rfl (fun w' hS' => ?_) ?_; rotate_left
            · simp only [lookP, allP, Act.put, List.getElem?_cons_zero, List.getElem?_cons_succ, List.setIfInBounds_toArray, List.set_cons_zero, List.set_cons_succ]
              refine ⟨by kernel_rfl, ?_⟩
              (try dsimp only at hS')
              go_simp
              (try with_reducible rfl)
            -- 7: call { callee := value (func 204), args := #[t23, const (int i64 1), const (int i64 24)], argTypes := #[3, 3, 3] }
            refine chainP_callG (d := (some 24)) (.bool true) rfl (fun w' hS' => ?_) ?_
            · simp only [lookP, allP, Act.put, List.getElem?_cons_zero, List.getElem?_cons_succ, List.setIfInBounds_toArray, List.set_cons_zero, List.set_cons_succ]
              refine ⟨by kernel_rfl, ?_⟩
              intro K hK
              go_simp
              go_at_call 204
              refine (impl_within (lvn : Int) 1 24 _).mono ?_
              rintro e u ⟨rfl, rfl⟩
              rw [hc2]
              exact hK.out _ (Below.refl _ _)
            -- 8: unOp Unnot 4 t24
            refine' chainP_readG (d := (some 25)) _ rfl (fun w' hS' => ?_) ?_; rotate_left
            · simp only [lookP, allP, Act.put, List.getElem?_cons_zero, List.getElem?_cons_succ, List.setIfInBounds_toArray, List.set_cons_zero, List.set_cons_succ]
              refine ⟨by kernel_rfl, ?_⟩
              (try dsimp only at hS')
              go_simp
              (try with_reducible rfl)
            iterate 2 (refine' chainP_read _ rfl rfl (fun w' hS' => ?_) ?_; rotate_left; · (simp only [lookP, allP, Act.put, List.getElem?_cons_zero, List.getElem?_cons_succ, List.setIfInBounds_toArray, List.set_cons_zero, List.set_cons_succ]; (try dsimp only at hS'); go_simp; (try with_reducible rfl)))
            -- 11: move t2
            refine' chainP_readG (d := (some 28)) _ rfl (fun w' hS' => ?_) ?_; rotate_left
            · simp only [lookP, allP, Act.put, List.getElem?_cons_zero, List.getElem?_cons_succ, List.setIfInBounds_toArray, List.set_cons_zero, List.set_cons_succ]
              refine ⟨by kernel_rfl, ?_⟩
              (try dsimp only at hS')
              go_simp
              (try with_reducible rfl)
            -- 12: call { callee := builtin Builtin.len, args := #[t28], argTypes := #[24] }
            refine' chainP_readG (d := (some 29)) _ rfl (fun w' hS' => ?_) ?_; rotate_left
            · simp only [lookP, allP, Act.put, List.getElem?_cons_zero, List.getElem?_cons_succ, List.setIfInBounds_toArray, List.set_cons_zero, List.set_cons_succ]
              refine ⟨by kernel_rfl, ?_⟩
              (try dsimp only at hS')
              go_simp
              (try with_reducible rfl)
            -- 13: move t3
            refine' chainP_readG (d := (some 30)) _ rfl (fun w' hS' => ?_) ?_; rotate_left
            · simp only [lookP, allP, Act.put, List.getElem?_cons_zero, List.getElem?_cons_succ, List.setIfInBounds_toArray, List.set_cons_zero, List.set_cons_succ]
              refine ⟨by kernel_rfl, ?_⟩
              (try dsimp only at hS')
              go_simp
              (try with_reducible rfl)
            -- 14: call { callee := builtin Builtin.len, args := #[t30], argTypes := #[24] }
            refine' chainP_readG (d := (some 31)) _ rfl (fun w' hS' => ?_) ?_; rotate_left
            · simp only [lookP, allP, Act.put, List.getElem?_cons_zero, List.getElem?_cons_succ, List.setIfInBounds_toArray, List.set_cons_zero, List.set_cons_succ]
              refine ⟨by kernel_rfl, ?_⟩
              (try dsimp only at hS')
              go_simp
              (try with_reducible rfl)
            -- 15: binOp Binneq 3 t29 t31 3
            refine' chainP_readG (d := (some 32)) _ rfl (fun w' hS' => ?_) ?_; rotate_left
            · simp only [lookP, allP, Act.put, List.getElem?_cons_zero, List.getElem?_cons_succ, List.setIfInBounds_toArray, List.set_cons_zero, List.set_cons_succ]
              refine ⟨by kernel_rfl, ?_⟩
              (try dsimp only at hS')
              go_simp
              (try with_reducible rfl)
            iterate 2 (refine' chainP_read _ rfl rfl (fun w' hS' => ?_) ?_; rotate_left; · (simp only [lookP, allP, Act.put, List.getElem?_cons_zero, List.getElem?_cons_succ, List.setIfInBounds_toArray, List.set_cons_zero, List.set_cons_succ]; (try dsimp only at hS'); go_simp; (try with_reducible rfl)))
            -- 18: move t4
            refine' chainP_readG (d := (some 35)) _ rfl (fun w' hS' => ?_) ?_; rotate_left
            · simp only [lookP, allP, Act.put, List.getElem?_cons_zero, List.getElem?_cons_succ, List.setIfInBounds_toArray, List.set_cons_zero, List.set_cons_succ]
              refine ⟨by kernel_rfl, ?_⟩
              (try dsimp only at hS')
              go_simp
              (try with_reducible rfl)
            -- 19: call { callee := builtin Builtin.len, args := #[t35], argTypes := #[24] }
            refine' chainP_readG (d := (some 36)) _ rfl (fun w' hS' => ?_) ?_; rotate_left
            · simp only [lookP, allP, Act.put, List.getElem?_cons_zero, List.getElem?_cons_succ, List.setIfInBounds_toArray, List.set_cons_zero, List.set_cons_succ]
              refine ⟨by kernel_rfl, ?_⟩
              (try dsimp only at hS')
              go_simp
              (try with_reducible rfl)
            -- 20: binOp Binneq 3 t36 (const (int i64 1)) 3
            refine' chainP_readG (d := (some 37)) _ rfl (fun w' hS' => ?_) ?_; rotate_left
            · simp only [lookP, allP, Act.put, List.getElem?_cons_zero, List.getElem?_cons_succ, List.setIfInBounds_toArray, List.set_cons_zero, List.set_cons_succ]
              refine ⟨by kernel_rfl, ?_⟩
              (try dsimp only at hS')
              go_simp
              (try with_reducible rfl)
            iterate 2 (refine' chainP_read _ rfl rfl (fun w' hS' => ?_) ?_; rotate_left; · (simp only [lookP, allP, Act.put, List.getElem?_cons_zero, List.getElem?_cons_succ, List.setIfInBounds_toArray, List.set_cons_zero, List.set_cons_succ]; (try dsimp only at hS'); go_simp; (try with_reducible rfl)))
            -- 23: load 39 t5
            refine' chainP_readG (d := (some 40)) _ rfl (fun w' hS' => ?_) ?_; rotate_left
            · simp only [lookP, allP, Act.put, List.getElem?_cons_zero, List.getElem?_cons_succ, List.setIfInBounds_toArray, List.set_cons_zero, List.set_cons_succ]
              refine ⟨by kernel_rfl, ?_⟩
              (try dsimp only at hS')
              go_simp
              (try with_reducible rfl)
            -- 24: move t2
            refine' chainP_readG (d := (some 41)) _ rfl (fun w' hS' => ?_) ?_; rotate_left
            · simp only [lookP, allP, Act.put, List.getElem?_cons_zero, List.getElem?_cons_succ, List.setIfInBounds_toArray, List.set_cons_zero, List.set_cons_succ]
              refine ⟨by kernel_rfl, ?_⟩
              (try dsimp only at hS')
              go_simp
              (try with_reducible rfl)
            -- 25: move t3
            refine' chainP_readG (d := (some 42)) _ rfl (fun w' hS' => ?_) ?_; rotate_left
            · simp only [lookP, allP, Act.put, List.getElem?_cons_zero, List.getElem?_cons_succ, List.setIfInBounds_toArray, List.set_cons_zero, List.set_cons_succ]
              refine ⟨by kernel_rfl, ?_⟩
              (try dsimp only at hS')
              go_simp
              (try with_reducible rfl)
            -- 26: move t4
            refine' chainP_readG (d := (some 43)) _ rfl (fun w' hS' => ?_) ?_; rotate_left
            · simp only [lookP, allP, Act.put, List.getElem?_cons_zero, List.getElem?_cons_succ, List.setIfInBounds_toArray, List.set_cons_zero, List.set_cons_succ]
              refine ⟨by kernel_rfl, ?_⟩
              (try dsimp only at hS')
              go_simp
              (try with_reducible rfl)
            -- 27: buildSlice 233 3 #[(0, t41), (1, t42), (2, t43)]
            refine chainP_doG (d := (some 44)) (fun v u => RdL kInts u v [rs, l, cs]) (fun v w1 w2 hw h => kRows.rd_below h hw) rfl (fun w' hS' => ?_) ?_
            · simp only [lookP, allP, Act.put, List.getElem?_cons_zero, List.getElem?_cons_succ, List.setIfInBounds_toArray, List.set_cons_zero, List.set_cons_succ]
              refine ⟨by kernel_rfl, ?_⟩
              intro K hK
              go_simp
              refine hK.out _ _ ((Below.refl _ _).alloc (Nat.le_refl _) _) ?_
              exact rd3s (((Hrv.out.below (HB.out.trans (hc.mono HB.out.size)))).below (hS'.1.alloc hS'.1.size _)) (((Hlv.out.below (HB.out.trans (hc.mono HB.out.size)))).below (hS'.1.alloc hS'.1.size _)) (((Hcv.out.below (HB.out.trans (hc.mono HB.out.size)))).below (hS'.1.alloc hS'.1.size _))
            -- 28: call { callee := value (func 205), args := #[t44], argTypes := #[233] }
            refine chainP_doG (d := (some 45)) (fun v u => Ints u v [rs, l, cs].flatten) (fun v w1 w2 hw h => Ints.below h hw) rfl (fun w' hS' => ?_) ?_
            · simp only [lookP, allP, Act.put, List.getElem?_cons_zero, List.getElem?_cons_succ, List.setIfInBounds_toArray, List.set_cons_zero, List.set_cons_succ]
              intro x27 hx27
              refine ⟨by kernel_rfl, ?_⟩
              intro K hK
              go_simp
              go_at_call 205
              refine (slices_Concat _ [rs, l, cs] _ hx27 (by rw [total3]; have := Erv.out; have := Elv.out; have := Ecv.out; omega)).mono ?_
              rintro e u ⟨v2, rfl, hown, hq⟩
              exact hK.out _ _ hq hown.ints
            -- 29: call { callee := value (func 140), args := #[t40, t45], argTypes := #[39, 24] }
            refine chainP_callG (d := (some 46)) (.bool true) rfl (fun w' hS' => ?_) ?_
            · simp only [lookP, allP, Act.put, List.getElem?_cons_zero, List.getElem?_cons_succ, List.setIfInBounds_toArray, List.set_cons_zero, List.set_cons_succ]
              intro x28 hx28
              refine ⟨by kernel_rfl, ?_⟩
              intro K hK
              go_simp
              go_at_call 140
              refine (impl_areExps gr _ [rs, l, cs].flatten _ HG.out hx28).mono ?_
              rintro e u ⟨rfl, hq⟩
              rw [Hhc5.out]
              exact hK.out _ hq
            -- 30: unOp Unnot 4 t46
            refine' chainP_readG (d := (some 47)) _ rfl (fun w' hS' => ?_) ?_; rotate_left
            · simp only [lookP, allP, Act.put, List.getElem?_cons_zero, List.getElem?_cons_succ, List.setIfInBounds_toArray, List.set_cons_zero, List.set_cons_succ]
              refine ⟨by kernel_rfl, ?_⟩
              (try dsimp only at hS')
              go_simp
              (try with_reducible rfl)
            -- 31: pick t39 (const (bool true)) t47
            refine' chainP_read (d := (some 48)) _ rfl rfl (fun w' hS' => ?_) ?_; rotate_left
            · simp only [lookP, allP, Act.put, List.getElem?_cons_zero, List.getElem?_cons_succ, List.setIfInBounds_toArray, List.set_cons_zero, List.set_cons_succ]
              (try dsimp only at hS')
              go_simp
              (try with_reducible rfl)
            refine chainP_nil (fun u1 hS' => ?_)
            simp only [allP, Act.put, List.setIfInBounds_toArray, List.set_cons_zero, List.set_cons_succ]
            intro x28 hx28
            intro x27 hx27
            have hq1 := hS'.1
            clear hS'
            replace hc := Below.next hc hq1
            clear hq1 c0_0 c0_1 c0_2 c1_0 c1_1 ycv0
            obtain ⟨c0_0, c0_1, c0_2, c1_0, c1_1, ycv0⟩ := HCC.out _ hc
            go_wp2_with fail
            refine NoPanic.normal ?_
            have hszr := hc.size
            try (go_wp2_with fail)
            refine wp_region_noPanic ?_
            refine wp_region_P (fun w' => w'.cell? ⟨w.heap.size, 0, none⟩ = some (.int .i64 gr.p) ∧ w'.cell? ⟨w.heap.size, 1, none⟩ = some (.int .i64 gr.q) ∧ w'.cell? ⟨w.heap.size, 2, none⟩ = some (.int .i64 gr.g) ∧ w'.cell? ⟨w.heap.size + 1, 0, none⟩ = some (.int .i64 bh) ∧ w'.cell? ⟨w.heap.size + 1, 1, none⟩ = some ((.slice bva bvn bvc)) ∧ w'.cell? ⟨cvb, cvo, none⟩ = some (.int .i64 (nth cs 0))) 12 [(0, []), (1, []), (2, [0]), (3, [2, 0]), (4, []), (5, []), (6, [0]), (7, [2, 0]), (8, [4]), (9, [1])] [] (by kernel_rfl) (by kernel_rfl) (by kernel_rfl) rfl (fun _ _ _ _ h => h) (fun w' h => ⟨box_at c0_0 h, box_at c0_1 h, box_at c0_2 h, box_at c1_0 h, box_at c1_1 h, box_at ycv0 h⟩) ?_
            simp only [pickP, pickN, List.getElem?_cons_zero, List.getElem?_cons_succ]
            iterate 3 (refine' chainP_read _ rfl rfl (fun w' hS' => ?_) ?_; rotate_left; · (simp only [lookP, allP, Act.put, List.getElem?_cons_zero, List.getElem?_cons_succ, List.setIfInBounds_toArray, List.set_cons_zero, List.set_cons_succ]; (try dsimp only at hS'); go_simp; (try with_reducible rfl)))
            -- 3: call { callee := value (func 206), args := #[t50, t52], argTypes := #[24, 3] }
            refine chainP_call (d := (some 53)) (.int .i64 S) rfl rfl (fun w' hS' => ?_) ?_
            · simp only [lookP, allP, Act.put, List.getElem?_cons_zero, List.getElem?_cons_succ, List.setIfInBounds_toArray, List.set_cons_zero, List.set_cons_succ]
              intro K hK
              go_simp
              go_at_call 206
              refine (impl_sum _ l gr.q _ ((Hlv.out.below (HB.out.trans (hc.mono HB.out.size))).below hS'.1) zq0 zq3 HBL.out).mono ?_
              rintro e u ⟨rfl, rfl⟩
              rw [HS.out]
              exact hK.out _ (Below.refl _ _)
            iterate 3 (refine' chainP_read _ rfl rfl (fun w' hS' => ?_) ?_; rotate_left; · (simp only [lookP, allP, Act.put, List.getElem?_cons_zero, List.getElem?_cons_succ, List.setIfInBounds_toArray, List.set_cons_zero, List.set_cons_succ]; (try dsimp only at hS'); go_simp; (try with_reducible rfl)))
            -- 7: call { callee := value (func 206), args := #[t54, t56], argTypes := #[24, 3] }
            refine chainP_call (d := (some 57)) (.int .i64 R) rfl rfl (fun w' hS' => ?_) ?_
            · simp only [lookP, allP, Act.put, List.getElem?_cons_zero, List.getElem?_cons_succ, List.setIfInBounds_toArray, List.set_cons_zero, List.set_cons_succ]
              intro K hK
              go_simp
              go_at_call 206
              refine (impl_sum _ rs gr.q _ ((Hrv.out.below (HB.out.trans (hc.mono HB.out.size))).below hS'.1) zq0 zq3 HBR.out).mono ?_
              rintro e u ⟨rfl, rfl⟩
              rw [HR.out]
              exact hK.out _ (Below.refl _ _)
            iterate 2 (refine' chainP_read _ rfl rfl (fun w' hS' => ?_) ?_; rotate_left; · (simp only [lookP, allP, Act.put, List.getElem?_cons_zero, List.getElem?_cons_succ, List.setIfInBounds_toArray, List.set_cons_zero, List.set_cons_succ]; (try dsimp only at hS'); go_simp; (try with_reducible rfl)))
            refine chainP_nil (fun u2 hS' => ?_)
            simp only [allP, Act.put, List.setIfInBounds_toArray, List.set_cons_zero, List.set_cons_succ]
            have hq2 := hS'.1
            clear hS'
            replace hc := Below.next hc hq2
            clear hq2 c0_0 c0_1 c0_2 c1_0 c1_1 ycv0
            obtain ⟨c0_0, c0_1, c0_2, c1_0, c1_1, ycv0⟩ := HCC.out _ hc
            go_wp2_with fail
            refine NoPanic.normal ?_
            have hszr := hc.size
            try (go_wp2_with fail)
            refine wp_region_noPanic ?_
            refine wp_region_P (fun w' => w'.cell? ⟨w.heap.size, 0, none⟩ = some (.int .i64 gr.p) ∧ w'.cell? ⟨w.heap.size, 1, none⟩ = some (.int .i64 gr.q) ∧ w'.cell? ⟨w.heap.size, 2, none⟩ = some (.int .i64 gr.g) ∧ w'.cell? ⟨w.heap.size + 1, 0, none⟩ = some (.int .i64 bh) ∧ w'.cell? ⟨w.heap.size + 1, 1, none⟩ = some ((.slice bva bvn bvc)) ∧ w'.cell? ⟨cvb, cvo, none⟩ = some (.int .i64 (nth cs 0))) 10 [(0, []), (1, []), (2, [0]), (3, []), (4, [0]), (5, [0]), (6, [5, 3, 0]), (7, [0])] [] (by kernel_rfl) (by kernel_rfl) (by kernel_rfl) rfl (fun _ _ _ _ h => h) (fun w' h => ⟨box_at c0_0 h, box_at c0_1 h, box_at c0_2 h, box_at c1_0 h, box_at c1_1 h, box_at ycv0 h⟩) ?_
            simp only [pickP, pickN, List.getElem?_cons_zero, List.getElem?_cons_succ]
            iterate 6 (refine' chainP_read _ rfl rfl (fun w' hS' => ?_) ?_; rotate_left; · (simp only [lookP, allP, Act.put, List.getElem?_cons_zero, List.getElem?_cons_succ, List.setIfInBounds_toArray, List.set_cons_zero, List.set_cons_succ]; (try dsimp only at hS'); go_simp; (try with_reducible rfl)))
            -- 6: call { callee := value (func 165), args := #[t58, t60, t63], argTypes := #[39, 3, 3] }
            refine chainP_call (d := (some 64)) (.int .i64 X) rfl rfl (fun w' hS' => ?_) ?_
            · simp only [lookP, allP, Act.put, List.getElem?_cons_zero, List.getElem?_cons_succ, List.setIfInBounds_toArray, List.set_cons_zero, List.set_cons_succ]
              intro K hK
              go_simp
              go_at_call 165
              refine (impl_pow gr bh (nth cs 0) _ HG.out sbh ⟨by omega, by omega⟩).mono ?_
              rintro e u ⟨rfl, hq⟩
              rw [HX.out]
              exact hK.out _ hq
            -- 7: assign t64
            refine' chainP_read (d := (some 14)) _ rfl rfl (fun w' hS' => ?_) ?_; rotate_left
            · simp only [lookP, allP, Act.put, List.getElem?_cons_zero, List.getElem?_cons_succ, List.setIfInBounds_toArray, List.set_cons_zero, List.set_cons_succ]
              (try dsimp only at hS')
              go_simp
              (try with_reducible rfl)
            refine chainP_nil (fun u3 hS' => ?_)
            simp only [allP, Act.put, List.setIfInBounds_toArray, List.set_cons_zero, List.set_cons_succ]
            have hq3 := hS'.1
            clear hS'
            replace hc := Below.next hc hq3
            clear hq3 c0_0 c0_1 c0_2 c1_0 c1_1 ycv0
            obtain ⟨c0_0, c0_1, c0_2, c1_0, c1_1, ycv0⟩ := HCC.out _ hc
            go_wp2_with fail
            refine NoPanic.normal ?_
            have hszr := hc.size
            try (go_wp2_with fail)
            refine wp_region_noPanic ?_
            refine wp_region_P (fun w' => w'.cell? ⟨w.heap.size, 0, none⟩ = some (.int .i64 gr.p) ∧ w'.cell? ⟨w.heap.size, 1, none⟩ = some (.int .i64 gr.q) ∧ w'.cell? ⟨w.heap.size, 2, none⟩ = some (.int .i64 gr.g) ∧ w'.cell? ⟨w.heap.size + 1, 0, none⟩ = some (.int .i64 bh) ∧ w'.cell? ⟨w.heap.size + 1, 1, none⟩ = some ((.slice bva bvn bvc)) ∧ w'.cell? ⟨cvb, cvo, none⟩ = some (.int .i64 (nth cs 0))) 19 [(0, []), (1, []), (2, [0]), (3, []), (4, []), (5, []), (6, []), (7, [3, 2, 1, 0]), (8, []), (9, []), (10, [7, 2, 1, 0]), (11, [10, 0]), (12, [0]), (13, [0]), (14, [1]), (15, [1]), (16, [1])] [] (by kernel_rfl) (by kernel_rfl) (by kernel_rfl) rfl (fun _ _ _ _ h => h) (fun w' h => ⟨box_at c0_0 h, box_at c0_1 h, box_at c0_2 h, box_at c1_0 h, box_at c1_1 h, box_at ycv0 h⟩) ?_
            simp only [pickP, pickN, List.getElem?_cons_zero, List.getElem?_cons_succ]
            iterate 7 (refine' chainP_read _ rfl rfl (fun w' hS' => ?_) ?_; rotate_left; · (simp only [lookP, allP, Act.put, List.getElem?_cons_zero, List.getElem?_cons_succ, List.setIfInBounds_toArray, List.set_cons_zero, List.set_cons_succ]; (try dsimp only at hS'); go_simp; (try with_reducible rfl)))
            -- 7: call { callee := value (func 171), args := #[t69, t70, t71, t72], argTypes := #[39, 79, 3, 3] }
            refine chainP_call (d := (some 73)) (.int .i64 C0) rfl rfl (fun w' hS' => ?_) ?_
            · simp only [lookP, allP, Act.put, List.getElem?_cons_zero, List.getElem?_cons_succ, List.setIfInBounds_toArray, List.set_cons_zero, List.set_cons_succ]
              intro K hK
              go_simp
              go_at_call 171
              refine (impl_commit gr bh _ bl S R _ HG.out ((Hbv.out.below (HB.out.trans (hc.mono HB.out.size))).below hS'.1) sbh (small_64 sS) (small_64 sR)).mono ?_
              rintro e u ⟨rfl, hq⟩
              rw [HC0.out]
              exact hK.out _ hq
            iterate 2 (refine' chainP_read _ rfl rfl (fun w' hS' => ?_) ?_; rotate_left; · (simp only [lookP, allP, Act.put, List.getElem?_cons_zero, List.getElem?_cons_succ, List.setIfInBounds_toArray, List.set_cons_zero, List.set_cons_succ]; (try dsimp only at hS'); go_simp; (try with_reducible rfl)))
            -- 10: buildSlice 24 4 #[(0, t68), (1, t73), (2, t74), (3, t75)]
            refine chainP_do (d := (some 76)) (fun v u => OwnI u u3.heap.size v [bh, C0, S, X]) (fun v w1 w2 hw h => OwnI.below h hw) rfl rfl (fun w' hS' => ?_) ?_
            · simp only [lookP, allP, Act.put, List.getElem?_cons_zero, List.getElem?_cons_succ, List.setIfInBounds_toArray, List.set_cons_zero, List.set_cons_succ]
              intro K hK
              go_simp
              have hsz0 := hS'.1.size
              refine hK.out _ _ ((Below.refl _ _).alloc (Nat.le_refl _) _) ?_
              exact OwnI.lit w' hsz0 (l := [bh, C0, S, X]) (AllI64.cons ibh (AllI64.cons (small_64 sC0) (AllI64.cons (small_64 sS) (AllI64.cons (small_64 sX) AllI64.nil)))) rfl (by simp [maxLen]) 4 rfl
            -- 11: call { callee := value (func 207), args := #[t66, const (string { data := #[115, 117, 109] }), t76], argTypes := #[39, 9, 24] }
            refine chainP_call (d := (some 77)) (.tuple #[.int .i64 E, .bool true]) rfl rfl (fun w' hS' => ?_) ?_
            · simp only [lookP, allP, Act.put, List.getElem?_cons_zero, List.getElem?_cons_succ, List.setIfInBounds_toArray, List.set_cons_zero, List.set_cons_succ]
              intro x10 hx10
              intro K hK
              go_simp
              go_at_call 207
              refine (impl_challenge gr sSum _ [bh, C0, S, X] _ HG.out hx10.ints (by decide) (by simp)).mono ?_
              rintro e u ⟨rfl, hq⟩
              rw [HCB.out, HCI.out]
              exact hK.out _ hq
            iterate 5 (refine' chainP_read _ rfl rfl (fun w' hS' => ?_) ?_; rotate_left; · (simp only [lookP, allP, Act.put, List.getElem?_cons_zero, List.getElem?_cons_succ, List.setIfInBounds_toArray, List.set_cons_zero, List.set_cons_succ]; (try dsimp only at hS'); go_simp; (try with_reducible rfl)))
            refine chainP_nil (fun u4 hS' => ?_)
            simp only [allP, Act.put, List.setIfInBounds_toArray, List.set_cons_zero, List.set_cons_succ]
            intro x10 hx10
            have hq4 := hS'.1
            clear hS'
            replace hc := Below.next hc hq4
            clear hq4 c0_0 c0_1 c0_2 c1_0 c1_1 ycv0
            obtain ⟨c0_0, c0_1, c0_2, c1_0, c1_1, ycv0⟩ := HCC.out _ hc
            go_wp2_with fail
            refine NoPanic.normal ?_
            have hszr := hc.size
            try (go_wp2_with fail)
            refine wp_region_noPanic ?_
            refine wp_region_P (fun w' => w'.cell? ⟨w.heap.size, 0, none⟩ = some (.int .i64 gr.p) ∧ w'.cell? ⟨w.heap.size, 1, none⟩ = some (.int .i64 gr.q) ∧ w'.cell? ⟨w.heap.size, 2, none⟩ = some (.int .i64 gr.g) ∧ w'.cell? ⟨w.heap.size + 1, 0, none⟩ = some (.int .i64 bh) ∧ w'.cell? ⟨w.heap.size + 1, 1, none⟩ = some ((.slice bva bvn bvc)) ∧ w'.cell? ⟨cvb, cvo, none⟩ = some (.int .i64 (nth cs 0))) 19 [(0, []), (1, [0]), (2, []), (3, [0]), (4, []), (5, []), (6, [0]), (7, [0]), (8, []), (9, []), (10, [1, 0]), (11, [3, 0]), (12, [7, 0]), (13, [0])] [14, 15, 16] (by kernel_rfl) (by kernel_rfl) (by kernel_rfl) rfl (fun _ _ _ _ h => h) (fun w' h => ⟨box_at c0_0 h, box_at c0_1 h, box_at c0_2 h, box_at c1_0 h, box_at c1_1 h, box_at ycv0 h⟩) ?_
            simp only [pickP, pickN, List.getElem?_cons_zero, List.getElem?_cons_succ]
            -- 0: move t14
            refine' chainP_read (d := (some 80)) _ rfl rfl (fun w' hS' => ?_) ?_; rotate_left
            · simp only [lookP, allP, Act.put, List.getElem?_cons_zero, List.getElem?_cons_succ, List.setIfInBounds_toArray, List.set_cons_zero, List.set_cons_succ]
              (try dsimp only at hS')
              go_simp
              (try with_reducible rfl)
            -- 1: buildSlice 24 1 #[(0, t80)]
            refine chainP_do (d := (some 81)) (fun v u => OwnI u u4.heap.size v [X]) (fun v w1 w2 hw h => OwnI.below h hw) rfl rfl (fun w' hS' => ?_) ?_
            · simp only [lookP, allP, Act.put, List.getElem?_cons_zero, List.getElem?_cons_succ, List.setIfInBounds_toArray, List.set_cons_zero, List.set_cons_succ]
              intro K hK
              go_simp
              have hsz0 := hS'.1.size
              refine hK.out _ _ ((Below.refl _ _).alloc (Nat.le_refl _) _) ?_
              exact OwnI.lit w' hsz0 (l := [X]) (AllI64.cons (small_64 sX) AllI64.nil) rfl (by simp [maxLen]) 1 rfl
            -- 2: move t15
            refine' chainP_read (d := (some 82)) _ rfl rfl (fun w' hS' => ?_) ?_; rotate_left
            · simp only [lookP, allP, Act.put, List.getElem?_cons_zero, List.getElem?_cons_succ, List.setIfInBounds_toArray, List.set_cons_zero, List.set_cons_succ]
              (try dsimp only at hS')
              go_simp
              (try with_reducible rfl)
            -- 3: buildSlice 24 1 #[(0, t82)]
            refine chainP_do (d := (some 83)) (fun v u => OwnI u u4.heap.size v [E]) (fun v w1 w2 hw h => OwnI.below h hw) rfl rfl (fun w' hS' => ?_) ?_
            · simp only [lookP, allP, Act.put, List.getElem?_cons_zero, List.getElem?_cons_succ, List.setIfInBounds_toArray, List.set_cons_zero, List.set_cons_succ]
              intro K hK
              go_simp
              have hsz0 := hS'.1.size
              refine hK.out _ _ ((Below.refl _ _).alloc (Nat.le_refl _) _) ?_
              exact OwnI.lit w' hsz0 (l := [E]) (AllI64.cons iE AllI64.nil) rfl (by simp [maxLen]) 1 rfl
            iterate 8 (refine' chainP_read _ rfl rfl (fun w' hS' => ?_) ?_; rotate_left; · (simp only [lookP, allP, Act.put, List.getElem?_cons_zero, List.getElem?_cons_succ, List.setIfInBounds_toArray, List.set_cons_zero, List.set_cons_succ]; (try dsimp only at hS'); go_simp; (try with_reducible rfl)))
            -- 12: call { callee := value (func 177), args := #[t84, t91], argTypes := #[39, 3] }
            refine chainP_call (d := (some 92)) (.int .i64 Z1) rfl rfl (fun w' hS' => ?_) ?_
            · simp only [lookP, allP, Act.put, List.getElem?_cons_zero, List.getElem?_cons_succ, List.setIfInBounds_toArray, List.set_cons_zero, List.set_cons_succ]
              intro K hK
              go_simp
              go_at_call 177
              refine (impl_exp gr (nth cs 0 + E * R) _ HG.out HN1.out).mono ?_
              rintro e u ⟨rfl, hq⟩
              rw [HZ1.out]
              exact hK.out _ hq
            -- 13: buildSlice 24 1 #[(0, t92)]
            refine chainP_do (d := (some 93)) (fun v u => OwnI u u4.heap.size v [Z1]) (fun v w1 w2 hw h => OwnI.below h hw) rfl rfl (fun w' hS' => ?_) ?_
            · simp only [lookP, allP, Act.put, List.getElem?_cons_zero, List.getElem?_cons_succ, List.setIfInBounds_toArray, List.set_cons_zero, List.set_cons_succ]
              intro K hK
              go_simp
              have hsz0 := hS'.1.size
              refine hK.out _ _ ((Below.refl _ _).alloc (Nat.le_refl _) _) ?_
              exact OwnI.lit w' hsz0 (l := [Z1]) (AllI64.cons iZ1 AllI64.nil) rfl (by simp [maxLen]) 1 rfl
            refine chainP_nil (fun u5 hS' => ?_)
            simp only [allP, Act.put, List.setIfInBounds_toArray, List.set_cons_zero, List.set_cons_succ]
            intro x13 hx13
            intro x3 hx3
            intro x1 hx1
            have hq5 := hS'.1
            clear hS'
            replace hc := Below.next hc hq5
            clear hq5 c0_0 c0_1 c0_2 c1_0 c1_1 ycv0
            obtain ⟨c0_0, c0_1, c0_2, c1_0, c1_1, ycv0⟩ := HCC.out _ hc
            have HRE2 := Lib.hid (HR2.out.below hc)
            clear HR2
            have HBE := Lib.hid (HB.out.trans (hc.mono HB.out.size))
            have r2_0 := HRE2.out.cell (i := 0) rfl
            have r2_1 := HRE2.out.cell (i := 1) rfl
            have r2_2 := HRE2.out.cell (i := 2) rfl
            have fr2 := fun j => HRE2.out.frozen j
            obtain ⟨xa1, xc1, rfl⟩ := OwnI.shapeN (n := 1) hx1 rfl
            obtain ⟨xa3, xc3, rfl⟩ := OwnI.shapeN (n := 1) hx3 rfl
            obtain ⟨xa13, xc13, rfl⟩ := OwnI.shapeN (n := 1) hx13 rfl
            go_wp2_with fail
            refine NoPanic.normal ?_
            have HRF := Lib.hid (((HRE2.out.set 0 ((.slice xa1 1 xc1))).set 1 ((.slice xa3 1 xc3))).set 2 ((.slice xa13 1 xc13)))
            have HBF := Lib.hid (((HBE.out.setCell (p := ⟨w.heap.size + 1 + 1, 0, none⟩) (by show w.heap.size ≤ w.heap.size + 1 + 1; omega) ((.slice xa1 1 xc1))).setCell (p := ⟨w.heap.size + 1 + 1, 1, none⟩) (by show w.heap.size ≤ w.heap.size + 1 + 1; omega) ((.slice xa3 1 xc3))).setCell (p := ⟨w.heap.size + 1 + 1, 2, none⟩) (by show w.heap.size ≤ w.heap.size + 1 + 1; omega) ((.slice xa13 1 xc13)))
            clear r2_0 r2_1 r2_2 fr2
            have r2_0 := HRF.out.cell (i := 0) rfl
            have r2_1 := HRF.out.cell (i := 1) rfl
            have r2_2 := HRF.out.cell (i := 2) rfl
            try (go_wp2_with fail)
            have HVB : Hid (psB gr bh bl rs l cs = true) := by unfold Hid; unfold psB; rw [Hhc1.out, HLC.out, HRL.out, HCL.out, HA1.out, HA2.out, HA3.out]; rfl
            have HPR : Hid (psR gr sSum bh bl rs l cs = ⟨[X], [E], [Z1]⟩) := by unfold Hid psR; rw [if_pos HVB.out]; unfold psD psE; rw [HS.out, HR.out, HX.out, HC0.out, HE.out, HZ1.out]
            refine bodyPost_ret (v := .tuple #[.agg #[(.slice xa1 1 xc1), (.slice xa3 1 xc3), (.slice xa13 1 xc13)], .bool true]) (by simp [results, Try.results85, go_sem, r2_0, r2_1, r2_2]) rfl ⟨(by rw [HVB.out, HPR.out]; exact RetP.mk ((((hx1.oth (b := w.heap.size + 1 + 1) (by omega) 0 ((.slice xa1 1 xc1))).oth (b := w.heap.size + 1 + 1) (by omega) 1 ((.slice xa3 1 xc3))).oth (b := w.heap.size + 1 + 1) (by omega) 2 ((.slice xa13 1 xc13))).mono (by omega)) ((((hx3.oth (b := w.heap.size + 1 + 1) (by omega) 0 ((.slice xa1 1 xc1))).oth (b := w.heap.size + 1 + 1) (by omega) 1 ((.slice xa3 1 xc3))).oth (b := w.heap.size + 1 + 1) (by omega) 2 ((.slice xa13 1 xc13))).mono (by omega)) ((((hx13.oth (b := w.heap.size + 1 + 1) (by omega) 0 ((.slice xa1 1 xc1))).oth (b := w.heap.size + 1 + 1) (by omega) 1 ((.slice xa3 1 xc3))).oth (b := w.heap.size + 1 + 1) (by omega) 2 ((.slice xa13 1 xc13))).mono (by omega))), HBF.out⟩
        | true =>
          have HCL : Hid (decide (cs.length = 1) = false) := by have q := hc4; rw [bne_iff_ne] at q; exact decide_eq_false (by have := Ecv.out; omega)
          have hszr := hc.size
          try (go_wp2_with fail)
          refine wp_region_noPanic ?_
          refine wp_region_P (fun w' => w'.cell? ⟨w.heap.size, 0, none⟩ = some (.int .i64 gr.p) ∧ w'.cell? ⟨w.heap.size, 1, none⟩ = some (.int .i64 gr.q) ∧ w'.cell? ⟨w.heap.size, 2, none⟩ = some (.int .i64 gr.g) ∧ w'.cell? ⟨w.heap.size + 1, 0, none⟩ = some (.int .i64 bh) ∧ w'.cell? ⟨w.heap.size + 1, 1, none⟩ = some ((.slice bva bvn bvc))) 34 [(0, []), (1, []), (2, [1, 0]), (3, [0]), (4, [0]), (5, [0]), (6, [0, 1]), (7, [0, 2]), (8, [0, 3]), (9, [4, 0]), (10, [0]), (11, [0]), (12, [0, 1]), (13, [2]), (14, [0, 3]), (15, [2, 0, 4]), (16, [5, 0]), (17, [0]), (18, [0]), (19, [0, 1]), (20, [0, 2]), (21, [3, 0]), (22, [0]), (23, [0]), (24, [1]), (25, [2]), (26, [3]), (27, [2, 1, 0, 4]), (28, [0, 5]), (29, [5, 0, 6]), (30, [0, 7]), (31, [8, 0])] [] (by kernel_rfl) (by kernel_rfl) (by kernel_rfl) rfl (fun _ _ _ _ h => h) (fun w' h => ⟨box_at c0_0 h, box_at c0_1 h, box_at c0_2 h, box_at c1_0 h, box_at c1_1 h⟩) ?_
          simp only [pickP, pickN, List.getElem?_cons_zero, List.getElem?_cons_succ]
          iterate 2 (refine' chainP_read _ rfl rfl (fun w' hS' => ?_) ?_; rotate_left; · (simp only [lookP, allP, Act.put, List.getElem?_cons_zero, List.getElem?_cons_succ, List.setIfInBounds_toArray, List.set_cons_zero, List.set_cons_succ]; (try dsimp only at hS'); go_simp; (try with_reducible rfl)))
          -- 2: call { callee := value (func 170), args := #[t17, t18], argTypes := #[39, 79] }
          refine chainP_call (d := (some 19)) (.bool true) rfl rfl (fun w' hS' => ?_) ?_
          · simp only [lookP, allP, Act.put, List.getElem?_cons_zero, List.getElem?_cons_succ, List.setIfInBounds_toArray, List.set_cons_zero, List.set_cons_succ]
            intro K hK
            go_simp
            go_at_call 170
            refine (impl_IsValidBases gr bh _ bl _ ((Hbv.out.below (HB.out.trans (hc.mono HB.out.size))).below hS'.1) ibh).mono ?_
            rintro e u ⟨rfl, hq⟩
            rw [Hhc1.out]
            exact hK.out _ hq
          iterate 2 (refine' chainP_read _ rfl rfl (fun w' hS' => ?_) ?_; rotate_left; · (simp only [lookP, allP, Act.put, List.getElem?_cons_zero, List.getElem?_cons_succ, List.setIfInBounds_toArray, List.set_cons_zero, List.set_cons_succ]; (try dsimp only at hS'); go_simp; (try with_reducible rfl)))
          -- 5: move t3
          refine' chainP_readG (d := (some 22)) _ rfl (fun w' hS' => ?_) ?_; rotate_left
          · simp only [lookP, allP, Act.put, List.getElem?_cons_zero, List.getElem?_cons_succ, List.setIfInBounds_toArray, List.set_cons_zero, List.set_cons_succ]
            refine ⟨by kernel_rfl, ?_⟩
            (try dsimp only at hS')
            go_simp
            (try with_reducible rfl)
          -- 6: call { callee := builtin Builtin.len, args := #[t22], argTypes := #[24] }
          refine' chainP_readG (d := (some 23)) _ rfl (fun w' hS' => ?_) ?_; rotate_left
          · simp only [lookP, allP, Act.put, List.getElem?_cons_zero, List.getElem?_cons_succ, List.setIfInBounds_toArray, List.set_cons_zero, List.set_cons_succ]
            refine ⟨by kernel_rfl, ?_⟩
            (try dsimp only at hS')
            go_simp
            (try with_reducible rfl)
          -- 7: call { callee := value (func 204), args := #[t23, const (int i64 1), const (int i64 24)], argTypes := #[3, 3, 3] }
          refine chainP_callG (d := (some 24)) (.bool true) rfl (fun w' hS' => ?_) ?_
          · simp only [lookP, allP, Act.put, List.getElem?_cons_zero, List.getElem?_cons_succ, List.setIfInBounds_toArray, List.set_cons_zero, List.set_cons_succ]
            refine ⟨by kernel_rfl, ?_⟩
            intro K hK
            go_simp
            go_at_call 204
            refine (impl_within (lvn : Int) 1 24 _).mono ?_
            rintro e u ⟨rfl, rfl⟩
            rw [hc2]
            exact hK.out _ (Below.refl _ _)
          -- 8: unOp Unnot 4 t24
          refine' chainP_readG (d := (some 25)) _ rfl (fun w' hS' => ?_) ?_; rotate_left
          · simp only [lookP, allP, Act.put, List.getElem?_cons_zero, List.getElem?_cons_succ, List.setIfInBounds_toArray, List.set_cons_zero, List.set_cons_succ]
            refine ⟨by kernel_rfl, ?_⟩
            (try dsimp only at hS')
            go_simp
            (try with_reducible rfl)
          iterate 2 (refine' chainP_read _ rfl rfl (fun w' hS' => ?_) ?_; rotate_left; · (simp only [lookP, allP, Act.put, List.getElem?_cons_zero, List.getElem?_cons_succ, List.setIfInBounds_toArray, List.set_cons_zero, List.set_cons_succ]; (try dsimp only at hS'); go_simp; (try with_reducible rfl)))
          -- 11: move t2
          refine' chainP_readG (d := (some 28)) _ rfl (fun w' hS' => ?_) ?_; rotate_left
          · simp only [lookP, allP, Act.put, List.getElem?_cons_zero, List.getElem?_cons_succ, List.setIfInBounds_toArray, List.set_cons_zero, List.set_cons_succ]
            refine ⟨by kernel_rfl, ?_⟩
            (try dsimp only at hS')
            go_simp
            (try with_reducible rfl)
          -- 12: call { callee := builtin Builtin.len, args := #[t28], argTypes := #[24] }
          refine' chainP_readG (d := (some 29)) _ rfl (fun w' hS' => ?_) ?_; rotate_left
          · simp only [lookP, allP, Act.put, List.getElem?_cons_zero, List.getElem?_cons_succ, List.setIfInBounds_toArray, List.set_cons_zero, List.set_cons_succ]
            refine ⟨by kernel_rfl, ?_⟩
            (try dsimp only at hS')
            go_simp
            (try with_reducible rfl)
          -- 13: move t3
          refine' chainP_readG (d := (some 30)) _ rfl (fun w' hS' => ?_) ?_; rotate_left
          · simp only [lookP, allP, Act.put, List.getElem?_cons_zero, List.getElem?_cons_succ, List.setIfInBounds_toArray, List.set_cons_zero, List.set_cons_succ]
            refine ⟨by kernel_rfl, ?_⟩
            (try dsimp only at hS')
            go_simp
            (try with_reducible rfl)
          -- 14: call { callee := builtin Builtin.len, args := #[t30], argTypes := #[24] }
          refine' chainP_readG (d := (some 31)) _ rfl (fun w' hS' => ?_) ?_; rotate_left
          · simp only [lookP, allP, Act.put, List.getElem?_cons_zero, List.getElem?_cons_succ, List.setIfInBounds_toArray, List.set_cons_zero, List.set_cons_succ]
            refine ⟨by kernel_rfl, ?_⟩
            (try dsimp only at hS')
            go_simp
            (try with_reducible rfl)
          -- 15: binOp Binneq 3 t29 t31 3
          refine' chainP_readG (d := (some 32)) _ rfl (fun w' hS' => ?_) ?_; rotate_left
          · simp only [lookP, allP, Act.put, List.getElem?_cons_zero, List.getElem?_cons_succ, List.setIfInBounds_toArray, List.set_cons_zero, List.set_cons_succ]
            refine ⟨by kernel_rfl, ?_⟩
            (try dsimp only at hS')
            go_simp
            (try with_reducible rfl)
          iterate 2 (refine' chainP_read _ rfl rfl (fun w' hS' => ?_) ?_; rotate_left; · (simp only [lookP, allP, Act.put, List.getElem?_cons_zero, List.getElem?_cons_succ, List.setIfInBounds_toArray, List.set_cons_zero, List.set_cons_succ]; (try dsimp only at hS'); go_simp; (try with_reducible rfl)))
          -- 18: move t4
          refine' chainP_readG (d := (some 35)) _ rfl (fun w' hS' => ?_) ?_; rotate_left
          · simp only [lookP, allP, Act.put, List.getElem?_cons_zero, List.getElem?_cons_succ, List.setIfInBounds_toArray, List.set_cons_zero, List.set_cons_succ]
            refine ⟨by kernel_rfl, ?_⟩
            (try dsimp only at hS')
            go_simp
            (try with_reducible rfl)
          -- 19: call { callee := builtin Builtin.len, args := #[t35], argTypes := #[24] }
          refine' chainP_readG (d := (some 36)) _ rfl (fun w' hS' => ?_) ?_; rotate_left
          · simp only [lookP, allP, Act.put, List.getElem?_cons_zero, List.getElem?_cons_succ, List.setIfInBounds_toArray, List.set_cons_zero, List.set_cons_succ]
            refine ⟨by kernel_rfl, ?_⟩
            (try dsimp only at hS')
            go_simp
            (try with_reducible rfl)
          -- 20: binOp Binneq 3 t36 (const (int i64 1)) 3
          refine' chainP_readG (d := (some 37)) _ rfl (fun w' hS' => ?_) ?_; rotate_left
          · simp only [lookP, allP, Act.put, List.getElem?_cons_zero, List.getElem?_cons_succ, List.setIfInBounds_toArray, List.set_cons_zero, List.set_cons_succ]
            refine ⟨by kernel_rfl, ?_⟩
            (try dsimp only at hS')
            go_simp
            (try with_reducible rfl)
          iterate 2 (refine' chainP_read _ rfl rfl (fun w' hS' => ?_) ?_; rotate_left; · (simp only [lookP, allP, Act.put, List.getElem?_cons_zero, List.getElem?_cons_succ, List.setIfInBounds_toArray, List.set_cons_zero, List.set_cons_succ]; (try dsimp only at hS'); go_simp; (try with_reducible rfl)))
          -- 23: load 39 t5
          refine chainP_skip (d := (some 40)) rfl (fun w' hS' => ?_) ?_
          · simp only [lookP, allP, Act.put, List.getElem?_cons_zero, List.getElem?_cons_succ, List.setIfInBounds_toArray, List.set_cons_zero, List.set_cons_succ]
            kernel_rfl
          -- 24: move t2
          refine chainP_skip (d := (some 41)) rfl (fun w' hS' => ?_) ?_
          · simp only [lookP, allP, Act.put, List.getElem?_cons_zero, List.getElem?_cons_succ, List.setIfInBounds_toArray, List.set_cons_zero, List.set_cons_succ]
            kernel_rfl
          -- 25: move t3
          refine chainP_skip (d := (some 42)) rfl (fun w' hS' => ?_) ?_
          · simp only [lookP, allP, Act.put, List.getElem?_cons_zero, List.getElem?_cons_succ, List.setIfInBounds_toArray, List.set_cons_zero, List.set_cons_succ]
            kernel_rfl
          -- 26: move t4
          refine chainP_skip (d := (some 43)) rfl (fun w' hS' => ?_) ?_
          · simp only [lookP, allP, Act.put, List.getElem?_cons_zero, List.getElem?_cons_succ, List.setIfInBounds_toArray, List.set_cons_zero, List.set_cons_succ]
            kernel_rfl
          -- 27: buildSlice 233 3 #[(0, t41), (1, t42), (2, t43)]
          refine chainP_skip (d := (some 44)) rfl (fun w' hS' => ?_) ?_
          · simp only [lookP, allP, Act.put, List.getElem?_cons_zero, List.getElem?_cons_succ, List.setIfInBounds_toArray, List.set_cons_zero, List.set_cons_succ]
            kernel_rfl
          -- 28: call { callee := value (func 205), args := #[t44], argTypes := #[233] }
          refine chainP_skip (d := (some 45)) rfl (fun w' hS' => ?_) ?_
          · simp only [lookP, allP, Act.put, List.getElem?_cons_zero, List.getElem?_cons_succ, List.setIfInBounds_toArray, List.set_cons_zero, List.set_cons_succ]
            kernel_rfl
          -- 29: call { callee := value (func 140), args := #[t40, t45], argTypes := #[39, 24] }
          refine chainP_skip (d := (some 46)) rfl (fun w' hS' => ?_) ?_
          · simp only [lookP, allP, Act.put, List.getElem?_cons_zero, List.getElem?_cons_succ, List.setIfInBounds_toArray, List.set_cons_zero, List.set_cons_succ]
            kernel_rfl
          -- 30: unOp Unnot 4 t46
          refine chainP_skip (d := (some 47)) rfl (fun w' hS' => ?_) ?_
          · simp only [lookP, allP, Act.put, List.getElem?_cons_zero, List.getElem?_cons_succ, List.setIfInBounds_toArray, List.set_cons_zero, List.set_cons_succ]
            kernel_rfl
          -- 31: pick t39 (const (bool true)) t47
          refine' chainP_read (d := (some 48)) _ rfl rfl (fun w' hS' => ?_) ?_; rotate_left
          · simp only [lookP, allP, Act.put, List.getElem?_cons_zero, List.getElem?_cons_succ, List.setIfInBounds_toArray, List.set_cons_zero, List.set_cons_succ]
            (try dsimp only at hS')
            go_simp
            (try with_reducible rfl)
          refine chainP_nil (fun u1 hS' => ?_)
          simp only [allP, Act.put, List.setIfInBounds_toArray, List.set_cons_zero, List.set_cons_succ]
          have hq1 := hS'.1
          clear hS'
          replace hc := Below.next hc hq1
          clear hq1 c0_0 c0_1 c0_2 c1_0 c1_1
          obtain ⟨c0_0, c0_1, c0_2, c1_0, c1_1⟩ := HCC.out _ hc
          go_wp2_with fail
          refine NoPanic.normal ?_
          have HRE2 := Lib.hid (HR2.out.below hc)
          clear HR2
          have HBE := Lib.hid (HB.out.trans (hc.mono HB.out.size))
          have r2_0 := HRE2.out.cell (i := 0) rfl
          have r2_1 := HRE2.out.cell (i := 1) rfl
          have r2_2 := HRE2.out.cell (i := 2) rfl
          have fr2 := fun j => HRE2.out.frozen j
          go_wp2_with fail
          have HRF := Lib.hid (((HRE2.out.set 0 ((.slice none 0 0))).set 1 ((.slice none 0 0))).set 2 ((.slice none 0 0)))
          have HBF := Lib.hid (((HBE.out.setCell (p := ⟨w.heap.size + 1 + 1, 0, none⟩) (by show w.heap.size ≤ w.heap.size + 1 + 1; omega) ((.slice none 0 0))).setCell (p := ⟨w.heap.size + 1 + 1, 1, none⟩) (by show w.heap.size ≤ w.heap.size + 1 + 1; omega) ((.slice none 0 0))).setCell (p := ⟨w.heap.size + 1 + 1, 2, none⟩) (by show w.heap.size ≤ w.heap.size + 1 + 1; omega) ((.slice none 0 0)))
          clear r2_0 r2_1 r2_2 fr2
          have r2_0 := HRF.out.cell (i := 0) rfl
          have r2_1 := HRF.out.cell (i := 1) rfl
          have r2_2 := HRF.out.cell (i := 2) rfl
          try (go_wp2_with fail)
          have HVB : Hid (psB gr bh bl rs l cs = false) := by unfold Hid; simp [psB, Hhc1.out, hc2, hc3, hc4, HLC.out, HRL.out, HCL.out]
          have HPR : Hid (psR gr sSum bh bl rs l cs = ⟨[], [], []⟩) := by unfold Hid psR; rw [if_neg (by rw [HVB.out]; simp)]
          refine bodyPost_ret (v := .tuple #[.agg #[(.slice none 0 0), (.slice none 0 0), (.slice none 0 0)], .bool false]) (by simp [results, Try.results85, go_sem, r2_0, r2_1, r2_2]) rfl ⟨(by rw [HVB.out, HPR.out]; exact RetP.mk (OwnI.nil _ _) (OwnI.nil _ _) (OwnI.nil _ _)), HBF.out⟩
      | true =>
        have HRL : Hid (decide (rs.length = l.length) = false) := by have q := hc3; rw [bne_iff_ne] at q; exact decide_eq_false (by have := Elv.out; have := Erv.out; omega)
        have hnat : ¬ rvn = lvn := by have q := hc3; rw [bne_iff_ne] at q; omega
        have hszr := hc.size
        try (go_wp2_with fail)
        refine wp_region_noPanic ?_
        refine wp_region_P (fun w' => w'.cell? ⟨w.heap.size, 0, none⟩ = some (.int .i64 gr.p) ∧ w'.cell? ⟨w.heap.size, 1, none⟩ = some (.int .i64 gr.q) ∧ w'.cell? ⟨w.heap.size, 2, none⟩ = some (.int .i64 gr.g) ∧ w'.cell? ⟨w.heap.size + 1, 0, none⟩ = some (.int .i64 bh) ∧ w'.cell? ⟨w.heap.size + 1, 1, none⟩ = some ((.slice bva bvn bvc))) 34 [(0, []), (1, []), (2, [1, 0]), (3, [0]), (4, [0]), (5, [0]), (6, [0, 1]), (7, [0, 2]), (8, [0, 3]), (9, [4, 0]), (10, [0]), (11, [0]), (12, [0, 1]), (13, [2]), (14, [0, 3]), (15, [2, 0, 4]), (16, [5, 0]), (17, [0]), (18, [0]), (19, [0, 1]), (20, [0, 2]), (21, [3, 0]), (22, [0]), (23, [0]), (24, [1]), (25, [2]), (26, [3]), (27, [2, 1, 0, 4]), (28, [0, 5]), (29, [5, 0, 6]), (30, [0, 7]), (31, [8, 0])] [] (by kernel_rfl) (by kernel_rfl) (by kernel_rfl) rfl (fun _ _ _ _ h => h) (fun w' h => ⟨box_at c0_0 h, box_at c0_1 h, box_at c0_2 h, box_at c1_0 h, box_at c1_1 h⟩) ?_
        simp only [pickP, pickN, List.getElem?_cons_zero, List.getElem?_cons_succ]
        iterate 2 (refine' chainP_read _ rfl rfl (fun w' hS' => ?_) ?_; rotate_left; · (simp only [lookP, allP, Act.put, List.getElem?_cons_zero, List.getElem?_cons_succ, List.setIfInBounds_toArray, List.set_cons_zero, List.set_cons_succ]; (try dsimp only at hS'); go_simp; (try with_reducible rfl)))
        -- 2: call { callee := value (func 170), args := #[t17, t18], argTypes := #[39, 79] }
        refine chainP_call (d := (some 19)) (.bool true) rfl rfl (fun w' hS' => ?_) ?_
        · simp only [lookP, allP, Act.put, List.getElem?_cons_zero, List.getElem?_cons_succ, List.setIfInBounds_toArray, List.set_cons_zero, List.set_cons_succ]
          intro K hK
          go_simp
          go_at_call 170
          refine (impl_IsValidBases gr bh _ bl _ ((Hbv.out.below (HB.out.trans (hc.mono HB.out.size))).below hS'.1) ibh).mono ?_
          rintro e u ⟨rfl, hq⟩
          rw [Hhc1.out]
          exact hK.out _ hq
        iterate 2 (refine' chainP_read _ rfl rfl (fun w' hS' => ?_) ?_; rotate_left; · (simp only [lookP, allP, Act.put, List.getElem?_cons_zero, List.getElem?_cons_succ, List.setIfInBounds_toArray, List.set_cons_zero, List.set_cons_succ]; (try dsimp only at hS'); go_simp; (try with_reducible rfl)))
        -- 5: move t3
        refine' chainP_readG (d := (some 22)) _ rfl (fun w' hS' => ?_) ?_; rotate_left
        · simp only [lookP, allP, Act.put, List.getElem?_cons_zero, List.getElem?_cons_succ, List.setIfInBounds_toArray, List.set_cons_zero, List.set_cons_succ]
          refine ⟨by kernel_rfl, ?_⟩
          (try dsimp only at hS')
          go_simp
          (try with_reducible rfl)
        -- 6: call { callee := builtin Builtin.len, args := #[t22], argTypes := #[24] }
        refine' chainP_readG (d := (some 23)) _ rfl (fun w' hS' => ?_) ?_; rotate_left
        · simp only [lookP, allP, Act.put, List.getElem?_cons_zero, List.getElem?_cons_succ, List.setIfInBounds_toArray, List.set_cons_zero, List.set_cons_succ]
          refine ⟨by kernel_rfl, ?_⟩
          (try dsimp only at hS')
          go_simp
          (try with_reducible rfl)
        -- 7: call { callee := value (func 204), args := #[t23, const (int i64 1), const (int i64 24)], argTypes := #[3, 3, 3] }
        refine chainP_callG (d := (some 24)) (.bool true) rfl (fun w' hS' => ?_) ?_
        · simp only [lookP, allP, Act.put, List.getElem?_cons_zero, List.getElem?_cons_succ, List.setIfInBounds_toArray, List.set_cons_zero, List.set_cons_succ]
          refine ⟨by kernel_rfl, ?_⟩
          intro K hK
          go_simp
          go_at_call 204
          refine (impl_within (lvn : Int) 1 24 _).mono ?_
          rintro e u ⟨rfl, rfl⟩
          rw [hc2]
          exact hK.out _ (Below.refl _ _)
        -- 8: unOp Unnot 4 t24
        refine' chainP_readG (d := (some 25)) _ rfl (fun w' hS' => ?_) ?_; rotate_left
        · simp only [lookP, allP, Act.put, List.getElem?_cons_zero, List.getElem?_cons_succ, List.setIfInBounds_toArray, List.set_cons_zero, List.set_cons_succ]
          refine ⟨by kernel_rfl, ?_⟩
          (try dsimp only at hS')
          go_simp
          (try with_reducible rfl)
        iterate 2 (refine' chainP_read _ rfl rfl (fun w' hS' => ?_) ?_; rotate_left; · (simp only [lookP, allP, Act.put, List.getElem?_cons_zero, List.getElem?_cons_succ, List.setIfInBounds_toArray, List.set_cons_zero, List.set_cons_succ]; (try dsimp only at hS'); go_simp; (try with_reducible rfl)))
        -- 11: move t2
        refine' chainP_readG (d := (some 28)) _ rfl (fun w' hS' => ?_) ?_; rotate_left
        · simp only [lookP, allP, Act.put, List.getElem?_cons_zero, List.getElem?_cons_succ, List.setIfInBounds_toArray, List.set_cons_zero, List.set_cons_succ]
          refine ⟨by kernel_rfl, ?_⟩
          (try dsimp only at hS')
          go_simp
          (try with_reducible rfl)
        -- 12: call { callee := builtin Builtin.len, args := #[t28], argTypes := #[24] }
        refine' chainP_readG (d := (some 29)) _ rfl (fun w' hS' => ?_) ?_; rotate_left
        · simp only [lookP, allP, Act.put, List.getElem?_cons_zero, List.getElem?_cons_succ, List.setIfInBounds_toArray, List.set_cons_zero, List.set_cons_succ]
          refine ⟨by kernel_rfl, ?_⟩
          (try dsimp only at hS')
          go_simp
          (try with_reducible rfl)
        -- 13: move t3
        refine' chainP_readG (d := (some 30)) _ rfl (fun w' hS' => ?_) ?_; rotate_left
        · simp only [lookP, allP, Act.put, List.getElem?_cons_zero, List.getElem?_cons_succ, List.setIfInBounds_toArray, List.set_cons_zero, List.set_cons_succ]
          refine ⟨by kernel_rfl, ?_⟩
          (try dsimp only at hS')
          go_simp
          (try with_reducible rfl)
        -- 14: call { callee := builtin Builtin.len, args := #[t30], argTypes := #[24] }
        refine' chainP_readG (d := (some 31)) _ rfl (fun w' hS' => ?_) ?_; rotate_left
        · simp only [lookP, allP, Act.put, List.getElem?_cons_zero, List.getElem?_cons_succ, List.setIfInBounds_toArray, List.set_cons_zero, List.set_cons_succ]
          refine ⟨by kernel_rfl, ?_⟩
          (try dsimp only at hS')
          go_simp
          (try with_reducible rfl)
        -- 15: binOp Binneq 3 t29 t31 3
        refine' chainP_readG (d := (some 32)) _ rfl (fun w' hS' => ?_) ?_; rotate_left
        · simp only [lookP, allP, Act.put, List.getElem?_cons_zero, List.getElem?_cons_succ, List.setIfInBounds_toArray, List.set_cons_zero, List.set_cons_succ]
          refine ⟨by kernel_rfl, ?_⟩
          (try dsimp only at hS')
          go_simp
          (try with_reducible rfl)
        iterate 2 (refine' chainP_read _ rfl rfl (fun w' hS' => ?_) ?_; rotate_left; · (simp only [lookP, allP, Act.put, List.getElem?_cons_zero, List.getElem?_cons_succ, List.setIfInBounds_toArray, List.set_cons_zero, List.set_cons_succ]; (try dsimp only at hS'); go_simp; (try with_reducible rfl)))
        -- 18: move t4
        refine chainP_skip (d := (some 35)) rfl (fun w' hS' => ?_) ?_
        · simp only [lookP, allP, Act.put, List.getElem?_cons_zero, List.getElem?_cons_succ, List.setIfInBounds_toArray, List.set_cons_zero, List.set_cons_succ]
          kernel_rfl
        -- 19: call { callee := builtin Builtin.len, args := #[t35], argTypes := #[24] }
        refine chainP_skip (d := (some 36)) rfl (fun w' hS' => ?_) ?_
        · simp only [lookP, allP, Act.put, List.getElem?_cons_zero, List.getElem?_cons_succ, List.setIfInBounds_toArray, List.set_cons_zero, List.set_cons_succ]
          kernel_rfl
        -- 20: binOp Binneq 3 t36 (const (int i64 1)) 3
        refine chainP_skip (d := (some 37)) rfl (fun w' hS' => ?_) ?_
        · simp only [lookP, allP, Act.put, List.getElem?_cons_zero, List.getElem?_cons_succ, List.setIfInBounds_toArray, List.set_cons_zero, List.set_cons_succ]
          kernel_rfl
        iterate 2 (refine' chainP_read _ rfl rfl (fun w' hS' => ?_) ?_; rotate_left; · (simp only [lookP, allP, Act.put, List.getElem?_cons_zero, List.getElem?_cons_succ, List.setIfInBounds_toArray, List.set_cons_zero, List.set_cons_succ]; (try dsimp only at hS'); go_simp; (try with_reducible rfl)))
        -- 23: load 39 t5
        refine chainP_skip (d := (some 40)) rfl (fun w' hS' => ?_) ?_
        · simp only [lookP, allP, Act.put, List.getElem?_cons_zero, List.getElem?_cons_succ, List.setIfInBounds_toArray, List.set_cons_zero, List.set_cons_succ]
          kernel_rfl
        -- 24: move t2
        refine chainP_skip (d := (some 41)) rfl (fun w' hS' => ?_) ?_
        · simp only [lookP, allP, Act.put, List.getElem?_cons_zero, List.getElem?_cons_succ, List.setIfInBounds_toArray, List.set_cons_zero, List.set_cons_succ]
          kernel_rfl
        -- 25: move t3
        refine chainP_skip (d := (some 42)) rfl (fun w' hS' => ?_) ?_
        · simp only [lookP, allP, Act.put, List.getElem?_cons_zero, List.getElem?_cons_succ, List.setIfInBounds_toArray, List.set_cons_zero, List.set_cons_succ]
          kernel_rfl
        -- 26: move t4
        refine chainP_skip (d := (some 43)) rfl (fun w' hS' => ?_) ?_
        · simp only [lookP, allP, Act.put, List.getElem?_cons_zero, List.getElem?_cons_succ, List.setIfInBounds_toArray, List.set_cons_zero, List.set_cons_succ]
          kernel_rfl
        -- 27: buildSlice 233 3 #[(0, t41), (1, t42), (2, t43)]
        refine chainP_skip (d := (some 44)) rfl (fun w' hS' => ?_) ?_
        · simp only [lookP, allP, Act.put, List.getElem?_cons_zero, List.getElem?_cons_succ, List.setIfInBounds_toArray, List.set_cons_zero, List.set_cons_succ]
          kernel_rfl
        -- 28: call { callee := value (func 205), args := #[t44], argTypes := #[233] }
        refine chainP_skip (d := (some 45)) rfl (fun w' hS' => ?_) ?_
        · simp only [lookP, allP, Act.put, List.getElem?_cons_zero, List.getElem?_cons_succ, List.setIfInBounds_toArray, List.set_cons_zero, List.set_cons_succ]
          kernel_rfl
        -- 29: call { callee := value (func 140), args := #[t40, t45], argTypes := #[39, 24] }
        refine chainP_skip (d := (some 46)) rfl (fun w' hS' => ?_) ?_
        · simp only [lookP, allP, Act.put, List.getElem?_cons_zero, List.getElem?_cons_succ, List.setIfInBounds_toArray, List.set_cons_zero, List.set_cons_succ]
          kernel_rfl
        -- 30: unOp Unnot 4 t46
        refine chainP_skip (d := (some 47)) rfl (fun w' hS' => ?_) ?_
        · simp only [lookP, allP, Act.put, List.getElem?_cons_zero, List.getElem?_cons_succ, List.setIfInBounds_toArray, List.set_cons_zero, List.set_cons_succ]
          kernel_rfl
        -- 31: pick t39 (const (bool true)) t47
        refine' chainP_read (d := (some 48)) _ rfl rfl (fun w' hS' => ?_) ?_; rotate_left
        · simp only [lookP, allP, Act.put, List.getElem?_cons_zero, List.getElem?_cons_succ, List.setIfInBounds_toArray, List.set_cons_zero, List.set_cons_succ]
          (try dsimp only at hS')
          go_simp
          (try with_reducible rfl)
        refine chainP_nil (fun u1 hS' => ?_)
        simp only [allP, Act.put, List.setIfInBounds_toArray, List.set_cons_zero, List.set_cons_succ]
        have hq1 := hS'.1
        clear hS'
        replace hc := Below.next hc hq1
        clear hq1 c0_0 c0_1 c0_2 c1_0 c1_1
        obtain ⟨c0_0, c0_1, c0_2, c1_0, c1_1⟩ := HCC.out _ hc
        go_wp2_with fail
        refine NoPanic.normal ?_
        have HRE2 := Lib.hid (HR2.out.below hc)
        clear HR2
        have HBE := Lib.hid (HB.out.trans (hc.mono HB.out.size))
        have r2_0 := HRE2.out.cell (i := 0) rfl
        have r2_1 := HRE2.out.cell (i := 1) rfl
        have r2_2 := HRE2.out.cell (i := 2) rfl
        have fr2 := fun j => HRE2.out.frozen j
        go_wp2_with fail
        have HRF := Lib.hid (((HRE2.out.set 0 ((.slice none 0 0))).set 1 ((.slice none 0 0))).set 2 ((.slice none 0 0)))
        have HBF := Lib.hid (((HBE.out.setCell (p := ⟨w.heap.size + 1 + 1, 0, none⟩) (by show w.heap.size ≤ w.heap.size + 1 + 1; omega) ((.slice none 0 0))).setCell (p := ⟨w.heap.size + 1 + 1, 1, none⟩) (by show w.heap.size ≤ w.heap.size + 1 + 1; omega) ((.slice none 0 0))).setCell (p := ⟨w.heap.size + 1 + 1, 2, none⟩) (by show w.heap.size ≤ w.heap.size + 1 + 1; omega) ((.slice none 0 0)))
        clear r2_0 r2_1 r2_2 fr2
        have r2_0 := HRF.out.cell (i := 0) rfl
        have r2_1 := HRF.out.cell (i := 1) rfl
        have r2_2 := HRF.out.cell (i := 2) rfl
        try (go_wp2_with fail)
        have HVB : Hid (psB gr bh bl rs l cs = false) := by unfold Hid; simp [psB, Hhc1.out, hc2, hc3, HLC.out, HRL.out]
        have HPR : Hid (psR gr sSum bh bl rs l cs = ⟨[], [], []⟩) := by unfold Hid psR; rw [if_neg (by rw [HVB.out]; simp)]
        refine bodyPost_ret (v := .tuple #[.agg #[(.slice none 0 0), (.slice none 0 0), (.slice none 0 0)], .bool false]) (by simp [results, Try.results85, go_sem, r2_0, r2_1, r2_2]) rfl ⟨(by rw [HVB.out, HPR.out]; exact RetP.mk (OwnI.nil _ _) (OwnI.nil _ _) (OwnI.nil _ _)), HBF.out⟩
end Go.Proofs.Ytboahnklilmdpaa
