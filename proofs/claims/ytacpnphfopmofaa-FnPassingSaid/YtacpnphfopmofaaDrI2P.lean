/- Bits: proofs checked: walks (printed by gen_bit3.py). -/
import Derived.Test.YtacpnphfopmofaaBit1P
import Derived.Test.YtacpnphfopmofaaBit2P
import Derived.Test.YtacpnphfopmofaaDrTP
import Derived.Test.YtacpnphfopmofaaInvP
namespace Go.Proofs.Ytacpnphfopmofaa
open Go.RowKit
set_option linter.unusedSimpArgs false
set_option linter.unusedVariables false

theorem sumM_two {q : Int} {l : List Int} (h : l.length = 2) : sumM q l = (nth l 0 + nth l 1) % q := by
  rw [list_two h]
  show ((0 + nth l 0) % q + nth l 1) % q = _
  rw [Int.zero_add, Int.emod_add_emod]
  rfl
theorem exps_bdB {gr : GroupD} {l : List Int} (h : l.all (expB gr) = true) : ∀ x ∈ l, 0 ≤ x ∧ x < gr.q := fun x hx => by
  have := expB_bd (List.all_eq_true.1 h x hx); omega
set_option maxHeartbeats 1000000 in
theorem impl_sumB (v : Value) (l : List Int) (q : Int) (w : World) (h : Ints w v l) (hq : 0 < q) (hq2 : q ≤ 2000000000) (hl : ∀ x ∈ l, 0 ≤ x ∧ x < q) :
    Calls Try.prog 87 #[v, .int .i64 q] w fun e w' => e = .returned (.int .i64 (sumM q l)) ∧ w = w' := by
  obtain ⟨a, n, c, rfl⟩ := h.shape
  have HE := Lib.hid h.len
  have HH := Lib.hid h
  have HL := Lib.hid hl
  obtain ⟨k1, k2⟩ := h.capMax
  unfold maxLen at k2
  clear h hl
  have hqz : ¬ q = 0 := by omega
  have hqz2 : (q == 0) = false := beq_eq_false_iff_ne.2 hqz
  go_enter Try.func87, Try.ntmps87
  go_wp2_with fail
  go_loopg [5, 10] n (fun gk ov iv wr => ∃ k : Nat, k + gk = n ∧ iv = .int .i64 k ∧ ov = .int .i64 (sumM q (l.take k)) ∧ w = wr)
  case atStart => exact ⟨0, by omega, rfl, rfl, rfl⟩
  case round =>
    obtain ⟨k, hkg, rfl, rfl, rfl⟩ := hrel
    have hb := sumM_bd hq (l.take k)
    by_cases hlt : k < n
    · obtain ⟨b, o, rfl, hc⟩ := HH.out.at_ (by omega)
      have y0 := hc k hlt
      have HS := Lib.hid (sumM_succ (q := q) (l := l) (k := k) (by have := HE.out; omega))
      have hx : 0 ≤ nth l k ∧ nth l k < q := by
        have e : nth l k = l[k]'(by have := HE.out; omega) := by simp [nth, List.getD, show k < l.length by have := HE.out; omega]
        rw [e]; exact HL.out _ (List.getElem_mem _)
      obtain ⟨hx0, hx1⟩ := hx
      obtain ⟨hb0, hb1⟩ := hb
      clear hc
      generalize nth l k = x at y0 HS hx0 hx1
      generalize sumM q (l.take k) = z at HS hb0 hb1 ⊢
      have b0 : (0 : Int) ≤ (k : Int) := by omega
      have bk1 : (k : Int) < (n : Int) := by omega
      have ew1 : IntKind.i64.wrap (z + x) = z + x := IntWalk.i64_in _ (by omega)
      have et : Int.tmod (z + x) q = (z + x) % q := Int.tmod_eq_emod_of_nonneg (by omega)
      have em0 : 0 ≤ (z + x) % q := Int.emod_nonneg _ hqz
      have em1 : (z + x) % q < q := Int.emod_lt_of_pos _ hq
      have ew2 : IntKind.i64.wrap ((z + x) % q) = (z + x) % q := IntWalk.i64_in _ (by omega)
      have hwk : IntKind.i64.wrap ((k : Int) + 1) = (k : Int) + 1 := IntWalk.i64_in _ (by omega)
      clear em0 em1
      go_wp2_with fail
      go_roundg (n - (k + 1))
      case measure => omega
      case rel => exact ⟨k + 1, by omega, by go_num, by rw [HS.out], rfl⟩
    · obtain rfl : n = k := by omega
      have HT : Hid (sumM q (l.take n) = sumM q l) := by unfold Hid; rw [List.take_of_length_le (by have := HE.out; omega)]
      rw [HT.out]
      clear hb
      go_wp2_with fail
      go_ret
      exact ⟨rfl, rfl⟩
end Go.Proofs.Ytacpnphfopmofaa
namespace Go.Proofs.Ytacpnphfopmofaa
open Go.RowKit
set_option linter.unusedSimpArgs false
set_option linter.unusedVariables false

theorem btD_len (gr : GroupD) (s : ByteArray) (bh m r : Int) (cs : List Int) : (btD gr s bh m r cs).c.length = 2 ∧ (btD gr s bh m r cs).h.length = 2 ∧ (btD gr s bh m r cs).r.length = 2 := by
  unfold btD
  split <;> exact ⟨rfl, rfl, rfl⟩
set_option maxRecDepth 100000 in
set_option maxHeartbeats 2000000 in
theorem spec_ProveBit (gr : GroupD) (bh : Int) (bv : Value) (bl : List Int) (m r : Int) (cv : Value) (cs : List Int) (w : World) (hb : Ints w bv bl) (ibh : I64 bh) (hm : I64 m) (hr : I64 r) (hcs : Ints w cv cs) :
    Calls Try.prog 81 #[.agg #[.int .i64 gr.p, .int .i64 gr.q, .int .i64 gr.g], .agg #[.int .i64 bh, bv], .int .i64 m, .int .i64 r, cv] w fun e w' => RetP e w' w.heap.size (pbB gr bh bl m r cs) (pbR gr sBit bh bl m r cs) ∧ Below w.heap.size w w' := by
  obtain ⟨bva, bvn, bvc, rfl⟩ := hb.shape
  have Ebv := Lib.hid hb.len
  have Kbv := Lib.hid hb.capMax
  have Hbv := Lib.hid hb
  clear hb
  obtain ⟨cva, cvn, cvc, rfl⟩ := hcs.shape
  have Ecv := Lib.hid hcs.len
  have Kcv := Lib.hid hcs.capMax
  have Hcv := Lib.hid hcs
  clear hcs
  obtain ⟨W, hW⟩ : ∃ W, W = ((w.alloc (.cells #[.int .i64 gr.p, .int .i64 gr.q, .int .i64 gr.g] 24)).alloc (.cells #[.int .i64 bh, (.slice bva bvn bvc)] 49)).alloc (.cells #[(.slice none 0 0), (.slice none 0 0), (.slice none 0 0)] 115) := ⟨_, rfl⟩
  have HB : Hid (Below w.heap.size w W) := by unfold Hid; rw [hW]; (repeat (first | exact Below.refl _ _ | assumption | refine Below.drew ?_ | refine Below.alloc ?_ (by first | (simp; done) | (simp; omega)) _ | refine Below.setCell ?_ (by first | (simp; done) | (simp; omega)) _))
  have c0_0 : W.cell? ⟨w.heap.size, 0, none⟩ = some (.int .i64 gr.p) := by rw [hW]; simp [go_sem]
  have c0_1 : W.cell? ⟨w.heap.size, 1, none⟩ = some (.int .i64 gr.q) := by rw [hW]; simp [go_sem]
  have c0_2 : W.cell? ⟨w.heap.size, 2, none⟩ = some (.int .i64 gr.g) := by rw [hW]; simp [go_sem]
  have c1_0 : W.cell? ⟨w.heap.size + 1, 0, none⟩ = some (.int .i64 bh) := by rw [hW]; simp [go_sem]
  have c1_1 : W.cell? ⟨w.heap.size + 1, 1, none⟩ = some ((.slice bva bvn bvc)) := by rw [hW]; simp [go_sem]
  have HR2 : Hid (BoxN W (w.heap.size + 1 + 1) 115 [(.slice none 0 0), (.slice none 0 0), (.slice none 0 0)]) := by unfold Hid; rw [hW]; have h := (BoxN.new ((w.alloc (.cells #[.int .i64 gr.p, .int .i64 gr.q, .int .i64 gr.g] 24)).alloc (.cells #[.int .i64 bh, (.slice bva bvn bvc)] 49)) [(.slice none 0 0), (.slice none 0 0), (.slice none 0 0)] 115); simpa using h
  have HSW : Hid (W.heap.size = w.heap.size + 3) := by unfold Hid; rw [hW]; simp
  have lr2 : w.heap.size + 1 + 1 < W.heap.size := by have := HSW.out; omega
  go_enter Try.func81, Try.ntmps81
  go_wp2_with fail
  rw [← hW]
  have hse : w.heap.size + 1 + 1 + 1 = W.heap.size := by have := HSW.out; omega
  (try rw [hse])
  clear hse
  clear hW
  have hc : Below W.heap.size W W := Below.refl _ _
  have HCC : Hid (∀ u, Below W.heap.size W u → u.cell? ⟨w.heap.size, 0, none⟩ = some (.int .i64 gr.p) ∧ u.cell? ⟨w.heap.size, 1, none⟩ = some (.int .i64 gr.q) ∧ u.cell? ⟨w.heap.size, 2, none⟩ = some (.int .i64 gr.g) ∧ u.cell? ⟨w.heap.size + 1, 0, none⟩ = some (.int .i64 bh) ∧ u.cell? ⟨w.heap.size + 1, 1, none⟩ = some ((.slice bva bvn bvc))) := fun u h => ⟨box_at c0_0 h, box_at c0_1 h, box_at c0_2 h, box_at c1_0 h, box_at c1_1 h⟩
  go_wp2_with fail
  refine (spec_l9Good gr bh _ bl _ (Hbv.out.below (HB.out.trans (hc.mono HB.out.size))) ibh).mono ?_
  rintro e u1 ⟨rfl, hq1⟩
  replace hc := Below.next hc hq1
  clear hq1 c0_0 c0_1 c0_2 c1_0 c1_1
  obtain ⟨c0_0, c0_1, c0_2, c1_0, c1_1⟩ := HCC.out _ hc
  cases hc1 : baB gr bh bl with
  | false =>
    have Hhc1 := Lib.hid hc1
    clear hc1
    have HRE2 := Lib.hid (HR2.out.below hc)
    clear HR2
    have HBE := Lib.hid (HB.out.trans (hc.mono HB.out.size))
    have r2_0 := HRE2.out.cell (i := 0) rfl
    have r2_1 := HRE2.out.cell (i := 1) rfl
    have r2_2 := HRE2.out.cell (i := 2) rfl
    have fr2 := fun j => HRE2.out.frozen j
    go_wp2_with fail
    have HRF := Lib.hid (((HRE2.out.set 0 ((.slice none 0 0))).set 1 ((.slice none 0 0))).set 2 ((.slice none 0 0)))
    have HBF := Lib.hid (((HBE.out.setCell (p := ⟨w.heap.size + 1 + 1, 0, none⟩) (by show w.heap.size ≤ w.heap.size + 1 + 1; omega) ((.slice none 0 0))).setCell (p := ⟨w.heap.size + 1 + 1, 1, none⟩) (by show w.heap.size ≤ w.heap.size + 1 + 1; omega) ((.slice none 0 0))).setCell (p := ⟨w.heap.size + 1 + 1, 2, none⟩) (by show w.heap.size ≤ w.heap.size + 1 + 1; omega) ((.slice none 0 0)))
    clear r2_0 r2_1 r2_2 fr2
    have r2_0 := HRF.out.cell (i := 0) rfl
    have r2_1 := HRF.out.cell (i := 1) rfl
    have r2_2 := HRF.out.cell (i := 2) rfl
    try (go_wp2_with fail)
    have HVB : Hid (pbB gr bh bl m r cs = false) := by unfold Hid; simp [pbB, Hhc1.out]
    have HPR : Hid (pbR gr sBit bh bl m r cs = ⟨[], [], []⟩) := by unfold Hid pbR; rw [if_neg (by rw [HVB.out]; simp)]
    refine bodyPost_ret (v := .tuple #[.agg #[(.slice none 0 0), (.slice none 0 0), (.slice none 0 0)], .bool false]) (by simp [results, Try.results81, go_sem, r2_0, r2_1, r2_2]) rfl ⟨(by rw [HVB.out, HPR.out]; exact RetP.mk (OwnI.nil _ _) (OwnI.nil _ _) (OwnI.nil _ _)), HBF.out⟩
  | true =>
    have HBA := Lib.hid (baB_parts hc1)
    have HG := Lib.hid (goodG_ok HBA.out.1)
    have sbh : Small bh := elB_small HG.out HBA.out.2.1
    have Hhc1 := Lib.hid hc1
    clear hc1
    go_wp2_with fail
    refine (spec_l1In m 0 1 _).mono ?_
    rintro e u2 ⟨rfl, rfl⟩
    cases hc2 : decide (0 ≤ m ∧ m ≤ 1) with
    | false =>
      have HRE2 := Lib.hid (HR2.out.below hc)
      clear HR2
      have HBE := Lib.hid (HB.out.trans (hc.mono HB.out.size))
      have r2_0 := HRE2.out.cell (i := 0) rfl
      have r2_1 := HRE2.out.cell (i := 1) rfl
      have r2_2 := HRE2.out.cell (i := 2) rfl
      have fr2 := fun j => HRE2.out.frozen j
      go_wp2_with fail
      have HRF := Lib.hid (((HRE2.out.set 0 ((.slice none 0 0))).set 1 ((.slice none 0 0))).set 2 ((.slice none 0 0)))
      have HBF := Lib.hid (((HBE.out.setCell (p := ⟨w.heap.size + 1 + 1, 0, none⟩) (by show w.heap.size ≤ w.heap.size + 1 + 1; omega) ((.slice none 0 0))).setCell (p := ⟨w.heap.size + 1 + 1, 1, none⟩) (by show w.heap.size ≤ w.heap.size + 1 + 1; omega) ((.slice none 0 0))).setCell (p := ⟨w.heap.size + 1 + 1, 2, none⟩) (by show w.heap.size ≤ w.heap.size + 1 + 1; omega) ((.slice none 0 0)))
      clear r2_0 r2_1 r2_2 fr2
      have r2_0 := HRF.out.cell (i := 0) rfl
      have r2_1 := HRF.out.cell (i := 1) rfl
      have r2_2 := HRF.out.cell (i := 2) rfl
      try (go_wp2_with fail)
      have HVB : Hid (pbB gr bh bl m r cs = false) := by unfold Hid; simp [pbB, Hhc1.out, hc2]
      have HPR : Hid (pbR gr sBit bh bl m r cs = ⟨[], [], []⟩) := by unfold Hid pbR; rw [if_neg (by rw [HVB.out]; simp)]
      refine bodyPost_ret (v := .tuple #[.agg #[(.slice none 0 0), (.slice none 0 0), (.slice none 0 0)], .bool false]) (by simp [results, Try.results81, go_sem, r2_0, r2_1, r2_2]) rfl ⟨(by rw [HVB.out, HPR.out]; exact RetP.mk (OwnI.nil _ _) (OwnI.nil _ _) (OwnI.nil _ _)), HBF.out⟩
    | true =>
      have HM : Hid (m = 0 ∨ m = 1) := by have q : 0 ≤ m ∧ m ≤ 1 := of_decide_eq_true hc2; unfold Hid; omega
      go_wp2_with fail
      refine (spec_gExps gr _ [r] _ HG.out (OwnI.lit (B := 0) _ (Nat.zero_le _) (l := [r]) (AllI64.cons hr AllI64.nil) rfl (by simp [maxLen]) 1 rfl).ints).mono ?_
      rintro e u3 ⟨rfl, hq3⟩
      replace hq3 := Below.next (keep_al (Below.refl _ _) _) hq3
      replace hc := Below.next hc hq3
      clear hq3 c0_0 c0_1 c0_2 c1_0 c1_1
      obtain ⟨c0_0, c0_1, c0_2, c1_0, c1_1⟩ := HCC.out _ hc
      cases hc3 : [r].all (expB gr) with
      | false =>
        have Hhc3 := Lib.hid hc3
        clear hc3
        have HRE2 := Lib.hid (HR2.out.below hc)
        clear HR2
        have HBE := Lib.hid (HB.out.trans (hc.mono HB.out.size))
        have r2_0 := HRE2.out.cell (i := 0) rfl
        have r2_1 := HRE2.out.cell (i := 1) rfl
        have r2_2 := HRE2.out.cell (i := 2) rfl
        have fr2 := fun j => HRE2.out.frozen j
        go_wp2_with fail
        have HRF := Lib.hid (((HRE2.out.set 0 ((.slice none 0 0))).set 1 ((.slice none 0 0))).set 2 ((.slice none 0 0)))
        have HBF := Lib.hid (((HBE.out.setCell (p := ⟨w.heap.size + 1 + 1, 0, none⟩) (by show w.heap.size ≤ w.heap.size + 1 + 1; omega) ((.slice none 0 0))).setCell (p := ⟨w.heap.size + 1 + 1, 1, none⟩) (by show w.heap.size ≤ w.heap.size + 1 + 1; omega) ((.slice none 0 0))).setCell (p := ⟨w.heap.size + 1 + 1, 2, none⟩) (by show w.heap.size ≤ w.heap.size + 1 + 1; omega) ((.slice none 0 0)))
        clear r2_0 r2_1 r2_2 fr2
        have r2_0 := HRF.out.cell (i := 0) rfl
        have r2_1 := HRF.out.cell (i := 1) rfl
        have r2_2 := HRF.out.cell (i := 2) rfl
        try (go_wp2_with fail)
        have HVB : Hid (pbB gr bh bl m r cs = false) := by unfold Hid; have qhc3 := Hhc3.out; simp only [List.all_cons, List.all_nil, Bool.and_true] at qhc3; simp [pbB, Hhc1.out, hc2, qhc3]
        have HPR : Hid (pbR gr sBit bh bl m r cs = ⟨[], [], []⟩) := by unfold Hid pbR; rw [if_neg (by rw [HVB.out]; simp)]
        refine bodyPost_ret (v := .tuple #[.agg #[(.slice none 0 0), (.slice none 0 0), (.slice none 0 0)], .bool false]) (by simp [results, Try.results81, go_sem, r2_0, r2_1, r2_2]) rfl ⟨(by rw [HVB.out, HPR.out]; exact RetP.mk (OwnI.nil _ _) (OwnI.nil _ _) (OwnI.nil _ _)), HBF.out⟩
      | true =>
        have HR : Hid (expB gr r = true) := by unfold Hid; simpa using hc3
        have Hhc3 := Lib.hid hc3
        clear hc3
        cases hc4 : ((cvn : Int) != 3) with
        | false =>
          have HL2 : Hid (decide (cs.length = 3) = true) := by have q := hc4; rw [bne_eq_false_iff_eq] at q; exact decide_eq_true (by have := Ecv.out; omega)
          go_wp2_with fail
          refine (spec_gExps gr _ cs _ HG.out (Hcv.out.below (HB.out.trans (hc.mono HB.out.size)))).mono ?_
          rintro e u4 ⟨rfl, hq4⟩
          replace hc := Below.next hc hq4
          clear hq4 c0_0 c0_1 c0_2 c1_0 c1_1
          obtain ⟨c0_0, c0_1, c0_2, c1_0, c1_1⟩ := HCC.out _ hc
          cases hc5 : cs.all (expB gr) with
          | false =>
            have Hhc5 := Lib.hid hc5
            clear hc5
            have HRE2 := Lib.hid (HR2.out.below hc)
            clear HR2
            have HBE := Lib.hid (HB.out.trans (hc.mono HB.out.size))
            have r2_0 := HRE2.out.cell (i := 0) rfl
            have r2_1 := HRE2.out.cell (i := 1) rfl
            have r2_2 := HRE2.out.cell (i := 2) rfl
            have fr2 := fun j => HRE2.out.frozen j
            go_wp2_with fail
            have HRF := Lib.hid (((HRE2.out.set 0 ((.slice none 0 0))).set 1 ((.slice none 0 0))).set 2 ((.slice none 0 0)))
            have HBF := Lib.hid (((HBE.out.setCell (p := ⟨w.heap.size + 1 + 1, 0, none⟩) (by show w.heap.size ≤ w.heap.size + 1 + 1; omega) ((.slice none 0 0))).setCell (p := ⟨w.heap.size + 1 + 1, 1, none⟩) (by show w.heap.size ≤ w.heap.size + 1 + 1; omega) ((.slice none 0 0))).setCell (p := ⟨w.heap.size + 1 + 1, 2, none⟩) (by show w.heap.size ≤ w.heap.size + 1 + 1; omega) ((.slice none 0 0)))
            clear r2_0 r2_1 r2_2 fr2
            have r2_0 := HRF.out.cell (i := 0) rfl
            have r2_1 := HRF.out.cell (i := 1) rfl
            have r2_2 := HRF.out.cell (i := 2) rfl
            try (go_wp2_with fail)
            have HVB : Hid (pbB gr bh bl m r cs = false) := by unfold Hid; have qhc3 := Hhc3.out; simp only [List.all_cons, List.all_nil, Bool.and_true] at qhc3; simp [pbB, Hhc1.out, hc2, qhc3, hc4, Hhc5.out, HL2.out]
            have HPR : Hid (pbR gr sBit bh bl m r cs = ⟨[], [], []⟩) := by unfold Hid pbR; rw [if_neg (by rw [HVB.out]; simp)]
            refine bodyPost_ret (v := .tuple #[.agg #[(.slice none 0 0), (.slice none 0 0), (.slice none 0 0)], .bool false]) (by simp [results, Try.results81, go_sem, r2_0, r2_1, r2_2]) rfl ⟨(by rw [HVB.out, HPR.out]; exact RetP.mk (OwnI.nil _ _) (OwnI.nil _ _) (OwnI.nil _ _)), HBF.out⟩
          | true =>
            have HCA : Hid (cs.all (expB gr) = true) := hc5
            have Hhc5 := Lib.hid hc5
            clear hc5
            go_wp2_with fail
            refine (spec_rBit gr bh _ bl m r _ cs _ HG.out (Hbv.out.below (HB.out.trans (hc.mono HB.out.size))) sbh HM.out HR.out (Hcv.out.below (HB.out.trans (hc.mono HB.out.size))) (of_decide_eq_true HL2.out) HCA.out).mono ?_
            rintro e u5 ⟨⟨x0, x1, x2, rfl, ho0, ho1, ho2⟩, hq5⟩
            have hszv := hc.size
            obtain ⟨xa0, xc0, rfl⟩ := OwnI.shapeN (n := 2) ho0 (btD_len gr sBit bh m r cs).1
            obtain ⟨xa1, xc1, rfl⟩ := OwnI.shapeN (n := 2) ho1 (btD_len gr sBit bh m r cs).2.1
            obtain ⟨xa2, xc2, rfl⟩ := OwnI.shapeN (n := 2) ho2 (btD_len gr sBit bh m r cs).2.2
            replace hc := Below.next hc hq5
            clear hq5 c0_0 c0_1 c0_2 c1_0 c1_1
            obtain ⟨c0_0, c0_1, c0_2, c1_0, c1_1⟩ := HCC.out _ hc
            have HRE2 := Lib.hid (HR2.out.below hc)
            clear HR2
            have HBE := Lib.hid (HB.out.trans (hc.mono HB.out.size))
            have r2_0 := HRE2.out.cell (i := 0) rfl
            have r2_1 := HRE2.out.cell (i := 1) rfl
            have r2_2 := HRE2.out.cell (i := 2) rfl
            have fr2 := fun j => HRE2.out.frozen j
            go_wp2_with fail
            have HRF := Lib.hid (((HRE2.out.set 0 ((.slice xa0 2 xc0))).set 1 ((.slice xa1 2 xc1))).set 2 ((.slice xa2 2 xc2)))
            have HBF := Lib.hid (((HBE.out.setCell (p := ⟨w.heap.size + 1 + 1, 0, none⟩) (by show w.heap.size ≤ w.heap.size + 1 + 1; omega) ((.slice xa0 2 xc0))).setCell (p := ⟨w.heap.size + 1 + 1, 1, none⟩) (by show w.heap.size ≤ w.heap.size + 1 + 1; omega) ((.slice xa1 2 xc1))).setCell (p := ⟨w.heap.size + 1 + 1, 2, none⟩) (by show w.heap.size ≤ w.heap.size + 1 + 1; omega) ((.slice xa2 2 xc2)))
            clear r2_0 r2_1 r2_2 fr2
            have r2_0 := HRF.out.cell (i := 0) rfl
            have r2_1 := HRF.out.cell (i := 1) rfl
            have r2_2 := HRF.out.cell (i := 2) rfl
            try (go_wp2_with fail)
            have HVB : Hid (pbB gr bh bl m r cs = true) := by unfold Hid; have qhc3 := Hhc3.out; simp only [List.all_cons, List.all_nil, Bool.and_true] at qhc3; simp [pbB, Hhc1.out, hc2, qhc3, hc4, Hhc5.out, HL2.out]
            have HPR : Hid (pbR gr sBit bh bl m r cs = btD gr sBit bh m r cs) := by unfold Hid pbR; rw [if_pos HVB.out]
            refine bodyPost_ret (v := .tuple #[.agg #[(.slice xa0 2 xc0), (.slice xa1 2 xc1), (.slice xa2 2 xc2)], .bool true]) (by simp [results, Try.results81, go_sem, r2_0, r2_1, r2_2]) rfl ⟨(by rw [HVB.out, HPR.out]; exact RetP.mk ((((ho0.oth (b := w.heap.size + 1 + 1) (by omega) 0 ((.slice xa0 2 xc0))).oth (b := w.heap.size + 1 + 1) (by omega) 1 ((.slice xa1 2 xc1))).oth (b := w.heap.size + 1 + 1) (by omega) 2 ((.slice xa2 2 xc2))).mono (by omega)) ((((ho1.oth (b := w.heap.size + 1 + 1) (by omega) 0 ((.slice xa0 2 xc0))).oth (b := w.heap.size + 1 + 1) (by omega) 1 ((.slice xa1 2 xc1))).oth (b := w.heap.size + 1 + 1) (by omega) 2 ((.slice xa2 2 xc2))).mono (by omega)) ((((ho2.oth (b := w.heap.size + 1 + 1) (by omega) 0 ((.slice xa0 2 xc0))).oth (b := w.heap.size + 1 + 1) (by omega) 1 ((.slice xa1 2 xc1))).oth (b := w.heap.size + 1 + 1) (by omega) 2 ((.slice xa2 2 xc2))).mono (by omega))), HBF.out⟩
        | true =>
          have HL2 : Hid (decide (cs.length = 3) = false) := by have q := hc4; rw [bne_iff_ne] at q; exact decide_eq_false (by have := Ecv.out; omega)
          have HRE2 := Lib.hid (HR2.out.below hc)
          clear HR2
          have HBE := Lib.hid (HB.out.trans (hc.mono HB.out.size))
          have r2_0 := HRE2.out.cell (i := 0) rfl
          have r2_1 := HRE2.out.cell (i := 1) rfl
          have r2_2 := HRE2.out.cell (i := 2) rfl
          have fr2 := fun j => HRE2.out.frozen j
          go_wp2_with fail
          have HRF := Lib.hid (((HRE2.out.set 0 ((.slice none 0 0))).set 1 ((.slice none 0 0))).set 2 ((.slice none 0 0)))
          have HBF := Lib.hid (((HBE.out.setCell (p := ⟨w.heap.size + 1 + 1, 0, none⟩) (by show w.heap.size ≤ w.heap.size + 1 + 1; omega) ((.slice none 0 0))).setCell (p := ⟨w.heap.size + 1 + 1, 1, none⟩) (by show w.heap.size ≤ w.heap.size + 1 + 1; omega) ((.slice none 0 0))).setCell (p := ⟨w.heap.size + 1 + 1, 2, none⟩) (by show w.heap.size ≤ w.heap.size + 1 + 1; omega) ((.slice none 0 0)))
          clear r2_0 r2_1 r2_2 fr2
          have r2_0 := HRF.out.cell (i := 0) rfl
          have r2_1 := HRF.out.cell (i := 1) rfl
          have r2_2 := HRF.out.cell (i := 2) rfl
          try (go_wp2_with fail)
          have HVB : Hid (pbB gr bh bl m r cs = false) := by unfold Hid; have qhc3 := Hhc3.out; simp only [List.all_cons, List.all_nil, Bool.and_true] at qhc3; simp [pbB, Hhc1.out, hc2, qhc3, hc4, HL2.out]
          have HPR : Hid (pbR gr sBit bh bl m r cs = ⟨[], [], []⟩) := by unfold Hid pbR; rw [if_neg (by rw [HVB.out]; simp)]
          refine bodyPost_ret (v := .tuple #[.agg #[(.slice none 0 0), (.slice none 0 0), (.slice none 0 0)], .bool false]) (by simp [results, Try.results81, go_sem, r2_0, r2_1, r2_2]) rfl ⟨(by rw [HVB.out, HPR.out]; exact RetP.mk (OwnI.nil _ _) (OwnI.nil _ _) (OwnI.nil _ _)), HBF.out⟩
end Go.Proofs.Ytacpnphfopmofaa
namespace Go.Proofs.Ytacpnphfopmofaa
open Go.RowKit
set_option linter.unusedSimpArgs false
set_option linter.unusedVariables false

theorem pbR_len (gr : GroupD) (s : ByteArray) (bh : Int) (bl : List Int) (m r : Int) (cs : List Int) : (pbR gr s bh bl m r cs).c.length ≤ 30 ∧ (pbR gr s bh bl m r cs).h.length ≤ 30 ∧ (pbR gr s bh bl m r cs).r.length ≤ 30 := by
  unfold pbR
  split
  · have := btD_len gr s bh m r cs; exact ⟨by omega, by omega, by omega⟩
  · exact ⟨by simp, by simp, by simp⟩
end Go.Proofs.Ytacpnphfopmofaa
